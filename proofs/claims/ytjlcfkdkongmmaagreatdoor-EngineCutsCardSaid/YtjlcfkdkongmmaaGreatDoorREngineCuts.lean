/-
  'EngineCuts' returns true whatever the lengths and the time; the card ties what the listed variables hold to the program's text.
-/
import Derived.Test.YtjlcfkdkongmmaaGreatDoorM6
import Derived.Test.YtjlcfkdkongmmaaGreatDoorMK
import Derived.Test.YtjlcfkdkongmmaaGreatDoorM4
namespace Go.Proofs.YtjlcfkdkongmmaaGreatDoor
open Go Go.Cl
theorem engineCuts_clean (h : Heap) (args : List CV) (ha : ArgL h [.int .u8, .int .u8, .int .u8] args) : ∃ n h', evCall S.pg prS n 473 args h = some (.bool true, h') := by
 obtain ⟨v1, v2, v3, rfl, a1, a2, a3⟩ := argL3 ha
 obtain ⟨n1, rfl, p1, p2⟩ := arg_int a1
 obtain ⟨n2, rfl, p3, p4⟩ := arg_int a2
 obtain ⟨n3, rfl, p5, p6⟩ := arg_int a3
 obtain ⟨n, r, h', k1, rfl⟩ := engineCuts_law (p := ⟨S.pg, prS⟩) (LP.of [439] (by decide)) rfl ⟨p1, p2⟩ ⟨p3, p4⟩ ⟨p5, p6⟩ (h := h)
 exact ⟨n, h', k1⟩
set_option maxRecDepth 100000 in
theorem engineCuts_lifted (os : Os) (started : os.Started) (H : Type) (enc : TypeId × Value → H) :
  ReturnsInHanded {} Tryz.checked os 4 .any (fun w args => (Rows.engineCutsSpec.pre enc Tryz.prog Tryz.f4 Rows.engineCutsRow.domain false w args ∧ laidMetH Tryz.prog Rows.engineCutsRow.laid w) ∧ sizedMet enc Tryz.prog Tryz.f4 (OpenSpec.ofChange Rows.engineCutsSpec) false w args)
   (Rows.engineCutsSpec.post enc Tryz.prog Tryz.f4 false true false false) :=
 law_lifted_laid (C := Tryz.checked) (tys := [.int .u8, .int .u8, .int .u8]) (g := 473) (Pg := S.pg) (pr := prS) (G := gam) (tb := 4) (X := fun w _ => laidMetH Tryz.prog Rows.engineCutsRow.laid w) (fun _ _ _ hh h => h.of_heap hh) own started (by kernel_rfl) Tryz.func4
  (ChangeSpec.witness_shaped (enc := enc) (C := Tryz.checked) (os := os) (X := fun w _ => laidMetH Tryz.prog Rows.engineCutsRow.laid w) false (World.laidAll Tryz.prog os Rows.engineCutsRow.laid) #[.int .u8 0, .int .u8 0, .int .u8 0] 8 (World.laidAll_os _ _ _)
   (World.shaped_of_ZipB (by kernel_rfl) (by kernel_rfl)) (by kernel_rfl) (by kernel_rfl) (by kernel_rfl)
   (by rw [MakeChecks.laidMetH_plain _ _ _ (by kernel_rfl)]; exact laidMet_laidAll _ (by kernel_rfl) (by kernel_rfl)))
  rfl (fun ds hd => by match ds, hd with | [_, _, _], _ => rfl) (by kernel_rfl) (by kernel_rfl) laidOut (by kernel_rfl) (by kernel_rfl) mixed good linked primsS (by kernel_rfl)
  (fun W _ hx hs => pins_of (by kernel_rfl) (by kernel_rfl) hx) engineCuts_clean
theorem engineCuts_row : Rows.EngineCutsSaid :=
 OpenClaim.holds_of_wide 4 Tryz.f4 rfl rfl rfl rfl rfl rfl rfl ⟨rfl, rfl, rfl, rfl, rfl⟩ rfl rfl rfl rfl rfl (by kernel_rfl) Tryz.func4 (by kernel_rfl)
  (of_decide_eq_true (by kernel_rfl)) (by unfold Func.isWrapper; first | (rw [if_pos (by decide +kernel)]; kernel_rfl) | (rw [if_neg (by decide +kernel)]; exact ⟨rfl, rfl⟩))
  (fun os started H enc _ => engineCuts_lifted os started H enc)
theorem engineCuts_holds : Rows.EngineCutsCardSaid :=
 Claim7.holds_tied_plain_at .later [] [.data, .data, .data, .data, .pinned] true (true, "2308b3895415da048ead196a74e9206b887238f651acc510ef482819e9c398f2") true engineCuts_row (fun _ h => by cases h) (by kernel_rfl) (fun _ h => by cases h) engineCuts_row_tie rfl ⟨rfl, rfl⟩ (by kernel_rfl) rfl
  (fun f fn hf hfn => by
   obtain rfl : f = 4 := Option.some.inj ((show Tryz.prog.funcNamed "watchbill/watchbilllaw23.EngineCuts" = some 4 by kernel_rfl).symm.trans hf) |>.symm
   obtain rfl : fn = Tryz.f4 := (Option.some.inj (Tryz.func4.symm.trans hfn)).symm
   exact ⟨by kernel_rfl, fun j t ht => by
    have hall : (Tryz.f4.params.toList.all fun u => !Tryz.prog.wantsStandIn u) = true := by kernel_rfl
    have hm : t ∈ Tryz.f4.params.toList := by simpa using Array.mem_of_getElem? ht
    exact (show Tryz.prog.wantsStandIn t = false by simpa using List.all_eq_true.1 hall t hm)⟩)
  (by kernel_rfl)
end Go.Proofs.YtjlcfkdkongmmaaGreatDoor
