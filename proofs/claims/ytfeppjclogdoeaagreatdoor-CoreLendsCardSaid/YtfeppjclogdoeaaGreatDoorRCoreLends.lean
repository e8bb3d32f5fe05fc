/-
  'CoreLends' returns true for every argument: how many tasks, who serves, who sends; the card ties what the listed variables hold to the program's text.
-/
import Derived.Test.YtfeppjclogdoeaaGreatDoorMC
import Derived.Test.YtfeppjclogdoeaaGreatDoorACoreL
import Derived.Test.YtfeppjclogdoeaaGreatDoorM4
namespace Go.Proofs.YtfeppjclogdoeaaGreatDoor
open Go Go.Cl

def okLends : List CV → Bool
  | [.int .u8 n, .int .u8 w, .int .u8 f] => decide (0 ≤ n ∧ n ≤ 255) && (decide (0 ≤ w ∧ w ≤ 255) && decide (0 ≤ f ∧ f ≤ 255))
  | _ => false
theorem primsLends : PrimOK Tryz.prog gam (addFlat 302 okLends prC) := by
  refine addFlat_ok mixed good linked primsC ?_ ?_
  · intro vs h
    unfold okLends at h
    split at h
    · rfl
    · cases h
  · intro vs h
    unfold okLends at h
    split at h
    · simp only [Bool.and_eq_true, decide_eq_true_eq] at h
      exact coreLends_law h.1.1 h.1.2 h.2.1.1 h.2.1.2 h.2.2.1 h.2.2.2
    · cases h
theorem coreLends_clean (h : Heap) (args : List CV) (ha : ArgL h [.int .u8, .int .u8, .int .u8] args) : ∃ n h', evCall S.pg (addFlat 302 okLends prC) n 302 args h = some (.bool true, h') := by
  obtain ⟨v, w, x, rfl, a1, a2, a3⟩ := argL3 ha
  obtain ⟨n, rfl, h0, h1⟩ := arg_int a1
  obtain ⟨m, rfl, h2, h3⟩ := arg_int a2
  obtain ⟨l, rfl, h4, h5⟩ := arg_int a3
  exact evCall_flat h (by simp only [okLends, Bool.and_eq_true, decide_eq_true_eq]; exact ⟨⟨h0, h1⟩, ⟨h2, h3⟩, h4, h5⟩)

set_option maxRecDepth 100000 in
theorem coreLends_lifted (os : Os) (started : os.Started) (H : Type) (enc : TypeId × Value → H) :
    ReturnsInHanded {} Tryz.checked os 3 .any (fun w args => (Rows.coreLendsSpec.pre enc Tryz.prog Tryz.f3 Rows.coreLendsRow.domain false w args ∧ laidMetH Tryz.prog Rows.coreLendsRow.laid w) ∧ sizedMet enc Tryz.prog Tryz.f3 (OpenSpec.ofChange Rows.coreLendsSpec) false w args)
      (Rows.coreLendsSpec.post enc Tryz.prog Tryz.f3 false true false false) :=
  law_lifted_laid (C := Tryz.checked) (tys := [.int .u8, .int .u8, .int .u8]) (g := 302) (Pg := S.pg) (pr := (addFlat 302 okLends prC)) (G := gam) (tb := 4) (X := fun w _ => laidMetH Tryz.prog Rows.coreLendsRow.laid w) (fun _ _ _ hh h => h.of_heap hh) own started (by kernel_rfl) Tryz.func3
    (ChangeSpec.witness_shaped (enc := enc) (C := Tryz.checked) (os := os) (X := fun w _ => laidMetH Tryz.prog Rows.coreLendsRow.laid w) false (World.laidAll Tryz.prog os Rows.coreLendsRow.laid) #[.int .u8 0, .int .u8 0, .int .u8 0] 8 (World.laidAll_os _ _ _)
      (World.shaped_of_ZipB (by kernel_rfl) (by kernel_rfl)) (by kernel_rfl) (by kernel_rfl) (by kernel_rfl)
      (by rw [MakeChecks.laidMetH_plain _ _ _ (by kernel_rfl)]; exact laidMet_laidAll _ (by kernel_rfl) (by kernel_rfl)))
    rfl (fun ds hd => by match ds, hd with | [_, _, _], _ => rfl) (by kernel_rfl) (by kernel_rfl) laidOut (by kernel_rfl) (by kernel_rfl) mixed good linked primsLends (by kernel_rfl)
    (fun W _ hx hs => noPins W) coreLends_clean

theorem coreLends_row : Rows.CoreLendsSaid :=
  OpenClaim.holds_of_wide 3 Tryz.f3 rfl rfl rfl rfl rfl rfl rfl ⟨rfl, rfl, rfl, rfl, rfl⟩ rfl rfl rfl rfl rfl (by kernel_rfl) Tryz.func3 (by kernel_rfl)
    (of_decide_eq_true (by kernel_rfl)) (by unfold Func.isWrapper; first | (rw [if_pos (by decide +kernel)]; kernel_rfl) | (rw [if_neg (by decide +kernel)]; exact ⟨rfl, rfl⟩))
    (fun os started H enc _ => coreLends_lifted os started H enc)

theorem coreLends_holds : Rows.CoreLendsCardSaid :=
  Claim7.holds_tied_plain_at .later [] [.data, .pinned] true (true, "84359d82d2332c37b17c8e5960449b60b77e39933aac91837b0a7f37c3cfcc9d") false coreLends_row (fun _ h => by cases h) (by kernel_rfl) (fun _ h => by cases h) coreLends_row_tie rfl ⟨rfl, rfl⟩ (by kernel_rfl) rfl
    (fun f fn hf hfn => by
      obtain rfl : f = 3 := Option.some.inj ((show Tryz.prog.funcNamed "watchbill/watchbilllaw22.CoreLends" = some 3 by kernel_rfl).symm.trans hf) |>.symm
      obtain rfl : fn = Tryz.f3 := (Option.some.inj (Tryz.func3.symm.trans hfn)).symm
      exact ⟨by kernel_rfl, fun j t ht => by
        have hall : (Tryz.f3.params.toList.all fun u => !Tryz.prog.wantsStandIn u) = true := by kernel_rfl
        have hm : t ∈ Tryz.f3.params.toList := by simpa using Array.mem_of_getElem? ht
        exact (show Tryz.prog.wantsStandIn t = false by simpa using List.all_eq_true.1 hall t hm)⟩)
    (by kernel_rfl)

end Go.Proofs.YtfeppjclogdoeaaGreatDoor
