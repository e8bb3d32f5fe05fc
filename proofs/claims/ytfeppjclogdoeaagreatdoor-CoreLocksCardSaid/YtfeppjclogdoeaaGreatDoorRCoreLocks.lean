/-
  'CoreLocks' returns true for every argument: how many tasks, who has it first; the card ties what the listed variables hold to the program's text.
-/
import Derived.Test.YtfeppjclogdoeaaGreatDoorMC
import Derived.Test.YtfeppjclogdoeaaGreatDoorACoreK
import Derived.Test.YtfeppjclogdoeaaGreatDoorM4
namespace Go.Proofs.YtfeppjclogdoeaaGreatDoor
open Go Go.Cl

def okLocks : List CV → Bool
  | [.int .u8 n, .int .u8 w] => decide (0 ≤ n ∧ n ≤ 255) && decide (0 ≤ w ∧ w ≤ 255)
  | _ => false
theorem primsLocks : PrimOK Tryz.prog gam (addFlat 313 okLocks prC) := by
  refine addFlat_ok mixed good linked primsC ?_ ?_
  · intro vs h
    unfold okLocks at h
    split at h
    · rfl
    · cases h
  · intro vs h
    unfold okLocks at h
    split at h
    · simp only [Bool.and_eq_true, decide_eq_true_eq] at h
      exact coreLocks_law h.1.1 h.1.2 h.2.1 h.2.2
    · cases h
theorem coreLocks_clean (h : Heap) (args : List CV) (ha : ArgL h [.int .u8, .int .u8] args) : ∃ n h', evCall S.pg (addFlat 313 okLocks prC) n 313 args h = some (.bool true, h') := by
  obtain ⟨v, w, rfl, a1, a2⟩ := argL2 ha
  obtain ⟨n, rfl, h0, h1⟩ := arg_int a1
  obtain ⟨m, rfl, h2, h3⟩ := arg_int a2
  exact evCall_flat h (by simp only [okLocks, Bool.and_eq_true, decide_eq_true_eq]; exact ⟨⟨h0, h1⟩, h2, h3⟩)

set_option maxRecDepth 100000 in
theorem coreLocks_lifted (os : Os) (started : os.Started) (H : Type) (enc : TypeId × Value → H) :
    ReturnsInHanded {} Tryz.checked os 5 .any (fun w args => (Rows.coreLocksSpec.pre enc Tryz.prog Tryz.f5 Rows.coreLocksRow.domain false w args ∧ laidMetH Tryz.prog Rows.coreLocksRow.laid w) ∧ sizedMet enc Tryz.prog Tryz.f5 (OpenSpec.ofChange Rows.coreLocksSpec) false w args)
      (Rows.coreLocksSpec.post enc Tryz.prog Tryz.f5 false true false false) :=
  law_lifted_laid (C := Tryz.checked) (tys := [.int .u8, .int .u8]) (g := 313) (Pg := S.pg) (pr := (addFlat 313 okLocks prC)) (G := gam) (tb := 4) (X := fun w _ => laidMetH Tryz.prog Rows.coreLocksRow.laid w) (fun _ _ _ hh h => h.of_heap hh) own started (by kernel_rfl) Tryz.func5
    (ChangeSpec.witness_shaped (enc := enc) (C := Tryz.checked) (os := os) (X := fun w _ => laidMetH Tryz.prog Rows.coreLocksRow.laid w) false (World.laidAll Tryz.prog os Rows.coreLocksRow.laid) #[.int .u8 0, .int .u8 0] 8 (World.laidAll_os _ _ _)
      (World.shaped_of_ZipB (by kernel_rfl) (by kernel_rfl)) (by kernel_rfl) (by kernel_rfl) (by kernel_rfl)
      (by rw [MakeChecks.laidMetH_plain _ _ _ (by kernel_rfl)]; exact laidMet_laidAll _ (by kernel_rfl) (by kernel_rfl)))
    rfl (fun ds hd => by match ds, hd with | [_, _], _ => rfl) (by kernel_rfl) (by kernel_rfl) laidOut (by kernel_rfl) (by kernel_rfl) mixed good linked primsLocks (by kernel_rfl)
    (fun W _ hx hs => noPins W) coreLocks_clean

theorem coreLocks_row : Rows.CoreLocksSaid :=
  OpenClaim.holds_of_wide 5 Tryz.f5 rfl rfl rfl rfl rfl rfl rfl ⟨rfl, rfl, rfl, rfl, rfl⟩ rfl rfl rfl rfl rfl (by kernel_rfl) Tryz.func5 (by kernel_rfl)
    (of_decide_eq_true (by kernel_rfl)) (by unfold Func.isWrapper; first | (rw [if_pos (by decide +kernel)]; kernel_rfl) | (rw [if_neg (by decide +kernel)]; exact ⟨rfl, rfl⟩))
    (fun os started H enc _ => coreLocks_lifted os started H enc)

theorem coreLocks_holds : Rows.CoreLocksCardSaid :=
  Claim7.holds_tied_plain_at .later [] [.data, .pinned] true (true, "84359d82d2332c37b17c8e5960449b60b77e39933aac91837b0a7f37c3cfcc9d") false coreLocks_row (fun _ h => by cases h) (by kernel_rfl) (fun _ h => by cases h) coreLocks_row_tie rfl ⟨rfl, rfl⟩ (by kernel_rfl) rfl
    (fun f fn hf hfn => by
      obtain rfl : f = 5 := Option.some.inj ((show Tryz.prog.funcNamed "watchbill/watchbilllaw22.CoreLocks" = some 5 by kernel_rfl).symm.trans hf) |>.symm
      obtain rfl : fn = Tryz.f5 := (Option.some.inj (Tryz.func5.symm.trans hfn)).symm
      exact ⟨by kernel_rfl, fun j t ht => by
        have hall : (Tryz.f5.params.toList.all fun u => !Tryz.prog.wantsStandIn u) = true := by kernel_rfl
        have hm : t ∈ Tryz.f5.params.toList := by simpa using Array.mem_of_getElem? ht
        exact (show Tryz.prog.wantsStandIn t = false by simpa using List.all_eq_true.1 hall t hm)⟩)
    (by kernel_rfl)

end Go.Proofs.YtfeppjclogdoeaaGreatDoor
