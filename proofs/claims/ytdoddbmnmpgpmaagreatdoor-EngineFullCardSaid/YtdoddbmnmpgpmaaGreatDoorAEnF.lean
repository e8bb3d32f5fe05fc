/-
  Layer 23: as many asks at one tick as may be, and one more: each case by the kernel.
-/
import Derived.Test.YtdoddbmnmpgpmaaGreatDoorM6
import Derived.Test.YtdoddbmnmpgpmaaGreatDoorM4
import Derived.Test.YtdoddbmnmpgpmaaGreatDoorM5
import Derived.Test.YtdoddbmnmpgpmaaGreatDoorS
import Derived.Test.YtdoddbmnmpgpmaaGreatDoorLink
import Derived.KernelRfl
namespace Go.Cl
open Go
set_option linter.unusedSimpArgs false
set_option linter.unusedVariables false

def prE : Prims := addKnown [439] (addRing lib)
noncomputable def fpE : FPrims := addKnownF [439] (addRingF libF)
theorem prE_snd : PrimSnd fpE prE := (PrimSnd.ring lib_fs).known [439]
abbrev pE : PP := ⟨S.pg, prE⟩
noncomputable abbrev callE : FCall := callF S.pg fpE 3000 100

noncomputable def enEnd (rest : SCode) (c : CV) (t : HT) (a i : Nat) : Bool := forceN (Nat.add a i) fun j => (codeF 3000 rest).run callE [(3, c), (5, .int .i64 (.ofNat j))] t (finK [.t 2])
noncomputable abbrev enRun (x : Int) (a m : Nat) : Bool := go (loadK Go.Proofs.YtdoddbmnmpgpmaaGreatDoor.gam.K .nil fun t0 => (codeF 3000 (front 2 (back 2 S.b438))).run callE [(0, .int .u8 x), (9, .bool false)] t0
  (midK fun f t => egetK 3 (fun c => allK (fun i => enEnd (back 5 S.b438) c t a i) m) f))
theorem en_0 (x : Int) : enRun x 0 10 = true := by kernel_rfl
theorem en_10 (x : Int) : enRun x 10 8 = true := by kernel_rfl
theorem en_18 (x : Int) : enRun x 18 7 = true := by kernel_rfl
theorem en_25 (x : Int) : enRun x 25 6 = true := by kernel_rfl
theorem en_31 (x : Int) : enRun x 31 5 = true := by kernel_rfl
theorem en_36 (x : Int) : enRun x 36 5 = true := by kernel_rfl
theorem en_41 (x : Int) : enRun x 41 4 = true := by kernel_rfl
theorem en_45 (x : Int) : enRun x 45 4 = true := by kernel_rfl
theorem en_49 (x : Int) : enRun x 49 4 = true := by kernel_rfl
theorem en_53 (x : Int) : enRun x 53 4 = true := by kernel_rfl
theorem en_57 (x : Int) : enRun x 57 4 = true := by kernel_rfl
theorem en_61 (x : Int) : enRun x 61 4 = true := by kernel_rfl
theorem en_65 (x : Int) : enRun x 65 5 = true := by kernel_rfl
theorem en_all (x : Int) {k : Nat} (hk : k < 70) : ∃ a m, a ≤ k ∧ k < a + m ∧ enRun x a m = true := by
  by_cases c0 : k < 10
  · exact ⟨0, 10, by omega, by omega, en_0 x⟩
  by_cases c10 : k < 18
  · exact ⟨10, 8, by omega, by omega, en_10 x⟩
  by_cases c18 : k < 25
  · exact ⟨18, 7, by omega, by omega, en_18 x⟩
  by_cases c25 : k < 31
  · exact ⟨25, 6, by omega, by omega, en_25 x⟩
  by_cases c31 : k < 36
  · exact ⟨31, 5, by omega, by omega, en_31 x⟩
  by_cases c36 : k < 41
  · exact ⟨36, 5, by omega, by omega, en_36 x⟩
  by_cases c41 : k < 45
  · exact ⟨41, 4, by omega, by omega, en_41 x⟩
  by_cases c45 : k < 49
  · exact ⟨45, 4, by omega, by omega, en_45 x⟩
  by_cases c49 : k < 53
  · exact ⟨49, 4, by omega, by omega, en_49 x⟩
  by_cases c53 : k < 57
  · exact ⟨53, 4, by omega, by omega, en_53 x⟩
  by_cases c57 : k < 61
  · exact ⟨57, 4, by omega, by omega, en_57 x⟩
  by_cases c61 : k < 65
  · exact ⟨61, 4, by omega, by omega, en_61 x⟩
  exact ⟨65, 5, by omega, by omega, en_65 x⟩

theorem en_mid {c rest : SCode} {x : Int} {K : Heap} {a m : Nat} (hk : go (loadK K .nil fun t0 => (codeF 3000 c).run callE [(0, .int .u8 x), (9, .bool false)] t0
    (midK fun f t => egetK 3 (fun c => allK (fun i => enEnd rest c t a i) m) f)) = true) {Q : Ex → Env → Heap → Prop} :
    W pE c [(0, .int .u8 x), (9, .bool false)] K (midQ (fun e' h' => ∃ cv t', Env.get e' 3 = some cv ∧ Rep t' h' ∧ ∀ i, i < m → enEnd rest cv t' a i = true) Q) := by
  obtain ⟨t0, R0, hk⟩ := loadK_snd Rep.nil (go_eq hk)
  rw [List.nil_append] at R0
  refine (fast_mid (p := pE) (fp := fpE) (fuel := 3000) (n := 100) (Q := Q) prE_snd (fun _ => rfl) R0 hk).mono fun x e' h' g => ?_
  cases x with
  | normal =>
    obtain ⟨f', t', E, R, g⟩ := g
    obtain ⟨cv, g1, g2⟩ := egetK_snd g
    rw [E] at g1
    exact ⟨cv, t', g1, R, allK_snd g2⟩
  | exit i => exact g
  | ret => exact g

theorem en_end {rest : SCode} {a i : Nat} {cv : CV} {t : HT} {h : Heap} (R : Rep t h) (hk : enEnd rest cv t a i = true) :
    W pE rest [(3, cv), (5, .int .i64 ((a + i : Nat) : Int))] h (retQ [.t 2] fun r _ => r = .bool true) := by
  unfold enEnd at hk
  rw [forceN_eq] at hk
  exact fast_end (p := pE) (fp := fpE) (fuel := 3000) (n := 100) (t := t) prE_snd (fun i => rfl) R hk

theorem engineFull_law {x : Int} (h0 : 0 ≤ x) (h1 : x ≤ 255) : ∃ m h', evCall S.pg prE m 438 [.int .u8 x] Go.Proofs.YtdoddbmnmpgpmaaGreatDoor.gam.K = some (.bool true, h') := by
  suffices w : WF pE 438 [.int .u8 x] Go.Proofs.YtdoddbmnmpgpmaaGreatDoor.gam.K fun r _ => r = .bool true by
    obtain ⟨m, r, h', a, rfl⟩ := w
    exact ⟨m, h', a⟩
  have hall := fun k => en_all x (k := k)
  unfold enRun at hall
  generalize Go.Proofs.YtdoddbmnmpgpmaaGreatDoor.gam.K = K at hall ⊢
  refine WF_of (by exact S.pg438) rfl ?_
  show W pE S.b438 [(0, .int .u8 x)] K (retQ [.t 2] fun r _ => r = .bool true)
  refine W_front 2 _ (fun e h => e = [(0, .int .u8 x), (9, .bool false)] ∧ h = K) ?_ ?_
  · simp [front, S.b438]
    refine WF_known (l := [439]) rfl rfl ?_
    simp
  · rintro e h ⟨rfl, rfl⟩
    obtain ⟨a, m, ha, hm, hr⟩ := hall (x % 70).toNat (by omega)
    have hkeep : keepsC 0 (front 2 (back 2 S.b438)) = true := by kernel_rfl
    have w := (en_mid (c := front 2 (back 2 S.b438)) (rest := back 5 S.b438) hr (Q := retQ [.t 2] fun r _ => r = .bool true)).keeps hkeep
    refine W_front 2 (back 2 S.b438) (fun e' h' => Env.get e' 0 = some (.int .u8 x) ∧ ∃ cv t', Env.get e' 3 = some cv ∧ Rep t' h' ∧ ∀ i, i < m → enEnd (back 5 S.b438) cv t' a i = true) (w.mono ?_) ?_
    · rintro y e' h' ⟨g, k0⟩
      cases y with
      | normal => exact ⟨k0 (by simp), g⟩
      | exit i => exact g
      | ret => exact g
    · rintro e' h' ⟨g0, cv, t', g3, R, g⟩
      clear w hr hkeep hall
      have hcut : back 2 (back 2 S.b438) = .seq (headN 4 S.b438) (back 5 S.b438) := rfl
      rw [hcut]
      generalize back 5 S.b438 = rest at g ⊢
      simp only [headN, S.b438]
      rw [W_seq, W_ops]
      have t1 : x.tmod 70 = x % 70 := Int.tmod_eq_emod_of_nonneg h0
      have t2 : IntKind.i64.wrap (x % 70) = x % 70 := wrap_in _ (by omega) (by omega)
      simp [g0, g3, t1, t2]
      have := en_end R (g ((x % 70).toNat - a) (by omega))
      rwa [show ((a + ((x % 70).toNat - a) : Nat) : Int) = x % 70 by omega] at this

end Go.Cl
