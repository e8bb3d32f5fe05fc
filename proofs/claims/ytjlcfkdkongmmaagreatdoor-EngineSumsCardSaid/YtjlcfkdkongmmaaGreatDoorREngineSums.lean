/-
  'EngineSums' returns true whatever the lengths; the card ties what the listed variables hold to the program's text.
-/
import Derived.Test.YtjlcfkdkongmmaaGreatDoorM6
import Derived.Test.YtjlcfkdkongmmaaGreatDoorMK
import Derived.Test.YtjlcfkdkongmmaaGreatDoorM4
namespace Go.Proofs.YtjlcfkdkongmmaaGreatDoor
open Go Go.Cl
theorem engineSums_clean (h : Heap) (args : List CV) (ha : ArgL h [.sl (.int .u8)] args) : ∃ n h', evCall S.pg prS n 472 args h = some (.bool true, h') := by
 obtain ⟨v, rfl, a1⟩ := argL1 ha
 obtain ⟨l, r0, hx⟩ := arg_ints a1
 obtain ⟨n, r, h', k1, rfl⟩ := engineSums_law (p := ⟨S.pg, prS⟩) (LP.of [439] (by decide)) rfl r0 hx
 exact ⟨n, h', k1⟩
set_option maxRecDepth 100000 in
theorem engineSums_lifted (os : Os) (started : os.Started) (H : Type) (enc : TypeId × Value → H) :
  ReturnsInHanded {} Tryz.checked os 3 .any (fun w args => (Rows.engineSumsSpec.pre enc Tryz.prog Tryz.f3 Rows.engineSumsRow.domain false w args ∧ laidMetH Tryz.prog Rows.engineSumsRow.laid w) ∧ sizedMet enc Tryz.prog Tryz.f3 (OpenSpec.ofChange Rows.engineSumsSpec) false w args)
   (Rows.engineSumsSpec.post enc Tryz.prog Tryz.f3 false true false false) :=
 law_lifted_laid (C := Tryz.checked) (tys := [.sl (.int .u8)]) (g := 472) (Pg := S.pg) (pr := prS) (G := gam) (tb := 4) (X := fun w _ => laidMetH Tryz.prog Rows.engineSumsRow.laid w) (fun _ _ _ hh h => h.of_heap hh) own started (by kernel_rfl) Tryz.func3
  (ChangeSpec.witness_shaped (enc := enc) (C := Tryz.checked) (os := os) (X := fun w _ => laidMetH Tryz.prog Rows.engineSumsRow.laid w) false (World.laidAll Tryz.prog os Rows.engineSumsRow.laid) #[.slice none 0 0] 8 (World.laidAll_os _ _ _)
   (World.shaped_of_ZipB (by kernel_rfl) (by kernel_rfl)) (by kernel_rfl) (by kernel_rfl) (by kernel_rfl)
   (by rw [MakeChecks.laidMetH_plain _ _ _ (by kernel_rfl)]; exact laidMet_laidAll _ (by kernel_rfl) (by kernel_rfl)))
  rfl (fun ds hd => by match ds, hd with | [_], _ => rfl) (by kernel_rfl) (by kernel_rfl) laidOut (by kernel_rfl) (by kernel_rfl) mixed good linked primsS (by kernel_rfl)
  (fun W _ hx hs => pins_of (by kernel_rfl) (by kernel_rfl) hx) engineSums_clean
theorem engineSums_row : Rows.EngineSumsSaid :=
 OpenClaim.holds_of_wide 3 Tryz.f3 rfl rfl rfl rfl rfl rfl rfl ⟨rfl, rfl, rfl, rfl, rfl⟩ rfl rfl rfl rfl rfl (by kernel_rfl) Tryz.func3 (by kernel_rfl)
  (of_decide_eq_true (by kernel_rfl)) (by unfold Func.isWrapper; first | (rw [if_pos (by decide +kernel)]; kernel_rfl) | (rw [if_neg (by decide +kernel)]; exact ⟨rfl, rfl⟩))
  (fun os started H enc _ => engineSums_lifted os started H enc)
theorem engineSums_holds : Rows.EngineSumsCardSaid :=
 Claim7.holds_tied_plain_at .later [] [.data, .data, .data, .data, .pinned] true (true, "2308b3895415da048ead196a74e9206b887238f651acc510ef482819e9c398f2") true engineSums_row (fun _ h => by cases h) (by kernel_rfl) (fun _ h => by cases h) engineSums_row_tie rfl ⟨rfl, rfl⟩ (by kernel_rfl) rfl
  (fun f fn hf hfn => by
   obtain rfl : f = 3 := Option.some.inj ((show Tryz.prog.funcNamed "watchbill/watchbilllaw23.EngineSums" = some 3 by kernel_rfl).symm.trans hf) |>.symm
   obtain rfl : fn = Tryz.f3 := (Option.some.inj (Tryz.func3.symm.trans hfn)).symm
   exact ⟨by kernel_rfl, fun j t ht => by
    have hall : (Tryz.f3.params.toList.all fun u => !Tryz.prog.wantsStandIn u) = true := by kernel_rfl
    have hm : t ∈ Tryz.f3.params.toList := by simpa using Array.mem_of_getElem? ht
    exact (show Tryz.prog.wantsStandIn t = false by simpa using List.all_eq_true.1 hall t hm)⟩)
  (by kernel_rfl)
end Go.Proofs.YtjlcfkdkongmmaaGreatDoor
