/-
  'CoreCloses' returns true for every argument: how many wait; the card ties what the listed variables hold to the program's text.
-/
import Derived.Test.YtfeppjclogdoeaaGreatDoorMC
import Derived.Test.YtfeppjclogdoeaaGreatDoorACoreF
import Derived.Test.YtfeppjclogdoeaaGreatDoorM4
namespace Go.Proofs.YtfeppjclogdoeaaGreatDoor
open Go Go.Cl

def okCloses : List CV → Bool
  | [.int .u8 n] => decide (0 ≤ n ∧ n ≤ 255)
  | _ => false
theorem primsCloses : PrimOK Tryz.prog gam (addFlat 311 okCloses prC) := by
  refine addFlat_ok mixed good linked primsC ?_ ?_
  · intro vs h
    unfold okCloses at h
    split at h
    · rfl
    · cases h
  · intro vs h
    unfold okCloses at h
    split at h
    · simp at h
      exact coreCloses_law h.1 h.2
    · cases h
theorem coreCloses_clean (h : Heap) (args : List CV) (ha : ArgL h [.int .u8] args) : ∃ n h', evCall S.pg (addFlat 311 okCloses prC) n 311 args h = some (.bool true, h') := by
  obtain ⟨v, rfl, a1⟩ := argL1 ha
  obtain ⟨n, rfl, h0, h1⟩ := arg_int a1
  exact evCall_flat h (by simp [okCloses]; exact ⟨h0, h1⟩)

set_option maxRecDepth 100000 in
theorem coreCloses_lifted (os : Os) (started : os.Started) (H : Type) (enc : TypeId × Value → H) :
    ReturnsInHanded {} Tryz.checked os 4 .any (fun w args => (Rows.coreClosesSpec.pre enc Tryz.prog Tryz.f4 Rows.coreClosesRow.domain false w args ∧ laidMetH Tryz.prog Rows.coreClosesRow.laid w) ∧ sizedMet enc Tryz.prog Tryz.f4 (OpenSpec.ofChange Rows.coreClosesSpec) false w args)
      (Rows.coreClosesSpec.post enc Tryz.prog Tryz.f4 false true false false) :=
  law_lifted_laid (C := Tryz.checked) (tys := [.int .u8]) (g := 311) (Pg := S.pg) (pr := (addFlat 311 okCloses prC)) (G := gam) (tb := 4) (X := fun w _ => laidMetH Tryz.prog Rows.coreClosesRow.laid w) (fun _ _ _ hh h => h.of_heap hh) own started (by kernel_rfl) Tryz.func4
    (ChangeSpec.witness_shaped (enc := enc) (C := Tryz.checked) (os := os) (X := fun w _ => laidMetH Tryz.prog Rows.coreClosesRow.laid w) false (World.laidAll Tryz.prog os Rows.coreClosesRow.laid) #[.int .u8 0] 8 (World.laidAll_os _ _ _)
      (World.shaped_of_ZipB (by kernel_rfl) (by kernel_rfl)) (by kernel_rfl) (by kernel_rfl) (by kernel_rfl)
      (by rw [MakeChecks.laidMetH_plain _ _ _ (by kernel_rfl)]; exact laidMet_laidAll _ (by kernel_rfl) (by kernel_rfl)))
    rfl (fun ds hd => by match ds, hd with | [_], _ => rfl) (by kernel_rfl) (by kernel_rfl) laidOut (by kernel_rfl) (by kernel_rfl) mixed good linked primsCloses (by kernel_rfl)
    (fun W _ hx hs => noPins W) coreCloses_clean

theorem coreCloses_row : Rows.CoreClosesSaid :=
  OpenClaim.holds_of_wide 4 Tryz.f4 rfl rfl rfl rfl rfl rfl rfl ⟨rfl, rfl, rfl, rfl, rfl⟩ rfl rfl rfl rfl rfl (by kernel_rfl) Tryz.func4 (by kernel_rfl)
    (of_decide_eq_true (by kernel_rfl)) (by unfold Func.isWrapper; first | (rw [if_pos (by decide +kernel)]; kernel_rfl) | (rw [if_neg (by decide +kernel)]; exact ⟨rfl, rfl⟩))
    (fun os started H enc _ => coreCloses_lifted os started H enc)

theorem coreCloses_holds : Rows.CoreClosesCardSaid :=
  Claim7.holds_tied_plain_at .later [] [.data, .pinned] true (true, "84359d82d2332c37b17c8e5960449b60b77e39933aac91837b0a7f37c3cfcc9d") false coreCloses_row (fun _ h => by cases h) (by kernel_rfl) (fun _ h => by cases h) coreCloses_row_tie rfl ⟨rfl, rfl⟩ (by kernel_rfl) rfl
    (fun f fn hf hfn => by
      obtain rfl : f = 4 := Option.some.inj ((show Tryz.prog.funcNamed "watchbill/watchbilllaw22.CoreCloses" = some 4 by kernel_rfl).symm.trans hf) |>.symm
      obtain rfl : fn = Tryz.f4 := (Option.some.inj (Tryz.func4.symm.trans hfn)).symm
      exact ⟨by kernel_rfl, fun j t ht => by
        have hall : (Tryz.f4.params.toList.all fun u => !Tryz.prog.wantsStandIn u) = true := by kernel_rfl
        have hm : t ∈ Tryz.f4.params.toList := by simpa using Array.mem_of_getElem? ht
        exact (show Tryz.prog.wantsStandIn t = false by simpa using List.all_eq_true.1 hall t hm)⟩)
    (by kernel_rfl)

end Go.Proofs.YtfeppjclogdoeaaGreatDoor
