/-
  'EngineFull' returns true however many ask at one tick; the card ties what the listed variables hold to the program's text.
-/
import Derived.Test.YtdoddbmnmpgpmaaGreatDoorMC
import Derived.Test.YtdoddbmnmpgpmaaGreatDoorAEnF
import Derived.Test.YtdoddbmnmpgpmaaGreatDoorM4
namespace Go.Proofs.YtdoddbmnmpgpmaaGreatDoor
open Go Go.Cl

def okFull : List CV → Bool
  | [.int .u8 n] => decide (0 ≤ n ∧ n ≤ 255)
  | _ => false
theorem primsFull : PrimOK Tryz.prog gam (addFlat 438 okFull prE) := by
  refine addFlat_ok mixed good linked primsE ?_ ?_
  · intro vs h
    unfold okFull at h
    split at h
    · rfl
    · cases h
  · intro vs h
    unfold okFull at h
    split at h
    · simp at h
      exact engineFull_law h.1 h.2
    · cases h
theorem engineFull_clean (h : Heap) (args : List CV) (ha : ArgL h [.int .u8] args) : ∃ n h', evCall S.pg (addFlat 438 okFull prE) n 438 args h = some (.bool true, h') := by
  obtain ⟨v, rfl, a1⟩ := argL1 ha
  obtain ⟨n, rfl, h0, h1⟩ := arg_int a1
  exact evCall_flat h (by simp [okFull]; exact ⟨h0, h1⟩)

set_option maxRecDepth 100000 in
theorem engineFull_lifted (os : Os) (started : os.Started) (H : Type) (enc : TypeId × Value → H) :
    ReturnsInHanded {} Tryz.checked os 6 .any (fun w args => (Rows.engineFullSpec.pre enc Tryz.prog Tryz.f6 Rows.engineFullRow.domain false w args ∧ laidMetH Tryz.prog Rows.engineFullRow.laid w) ∧ sizedMet enc Tryz.prog Tryz.f6 (OpenSpec.ofChange Rows.engineFullSpec) false w args)
      (Rows.engineFullSpec.post enc Tryz.prog Tryz.f6 false true false false) :=
  law_lifted_laid (C := Tryz.checked) (tys := [.int .u8]) (g := 438) (Pg := S.pg) (pr := (addFlat 438 okFull prE)) (G := gam) (tb := 4) (X := fun w _ => laidMetH Tryz.prog Rows.engineFullRow.laid w) (fun _ _ _ hh h => h.of_heap hh) own started (by kernel_rfl) Tryz.func6
    (ChangeSpec.witness_shaped (enc := enc) (C := Tryz.checked) (os := os) (X := fun w _ => laidMetH Tryz.prog Rows.engineFullRow.laid w) false (World.laidAll Tryz.prog os Rows.engineFullRow.laid) #[.int .u8 0] 8 (World.laidAll_os _ _ _)
      (World.shaped_of_ZipB (by kernel_rfl) (by kernel_rfl)) (by kernel_rfl) (by kernel_rfl) (by kernel_rfl)
      (by rw [MakeChecks.laidMetH_plain _ _ _ (by kernel_rfl)]; exact laidMet_laidAll _ (by kernel_rfl) (by kernel_rfl)))
    rfl (fun ds hd => by match ds, hd with | [_], _ => rfl) (by kernel_rfl) (by kernel_rfl) laidOut (by kernel_rfl) (by kernel_rfl) mixed good linked primsFull (by kernel_rfl)
    (fun W _ hx hs => pins_of (by kernel_rfl) (by kernel_rfl) hx) engineFull_clean

theorem engineFull_row : Rows.EngineFullSaid :=
  OpenClaim.holds_of_wide 6 Tryz.f6 rfl rfl rfl rfl rfl rfl rfl ⟨rfl, rfl, rfl, rfl, rfl⟩ rfl rfl rfl rfl rfl (by kernel_rfl) Tryz.func6 (by kernel_rfl)
    (of_decide_eq_true (by kernel_rfl)) (by unfold Func.isWrapper; first | (rw [if_pos (by decide +kernel)]; kernel_rfl) | (rw [if_neg (by decide +kernel)]; exact ⟨rfl, rfl⟩))
    (fun os started H enc _ => engineFull_lifted os started H enc)

theorem engineFull_holds : Rows.EngineFullCardSaid :=
  Claim7.holds_tied_plain_at .later [] [.data, .data, .data, .data, .pinned] true (true, "3049bfe6760972a643ba83d8f4249be03934394b924b259dadc8321ae7cb0487") false engineFull_row (fun _ h => by cases h) (by kernel_rfl) (fun _ h => by cases h) engineFull_row_tie rfl ⟨rfl, rfl⟩ (by kernel_rfl) rfl
    (fun f fn hf hfn => by
      obtain rfl : f = 6 := Option.some.inj ((show Tryz.prog.funcNamed "watchbill/watchbilllaw23.EngineFull" = some 6 by kernel_rfl).symm.trans hf) |>.symm
      obtain rfl : fn = Tryz.f6 := (Option.some.inj (Tryz.func6.symm.trans hfn)).symm
      exact ⟨by kernel_rfl, fun j t ht => by
        have hall : (Tryz.f6.params.toList.all fun u => !Tryz.prog.wantsStandIn u) = true := by kernel_rfl
        have hm : t ∈ Tryz.f6.params.toList := by simpa using Array.mem_of_getElem? ht
        exact (show Tryz.prog.wantsStandIn t = false by simpa using List.all_eq_true.1 hall t hm)⟩)
    (by kernel_rfl)

end Go.Proofs.YtdoddbmnmpgpmaaGreatDoor
