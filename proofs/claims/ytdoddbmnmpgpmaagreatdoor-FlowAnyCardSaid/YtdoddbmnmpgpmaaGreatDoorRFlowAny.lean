/-
  'FlowAny' returns true for every flow and every room; the card ties what the listed variables hold to the program's text.
-/
import Derived.Test.YtdoddbmnmpgpmaaGreatDoorMC
import Derived.Test.YtdoddbmnmpgpmaaGreatDoorAFlow
import Derived.Test.YtdoddbmnmpgpmaaGreatDoorM4
namespace Go.Proofs.YtdoddbmnmpgpmaaGreatDoor
open Go Go.Cl

theorem flowAny_clean (h : Heap) (args : List CV) (ha : ArgL h [.sl (.int .i64), .sl (.int .i64), .int .i64] args) : ∃ n h', evCall S.pg prL n 428 args h = some (.bool true, h') := by
  obtain ⟨v, w, x, rfl, a1, a2, a3⟩ := argL3 ha
  obtain ⟨a, s0, _⟩ := arg_sl (Tells.int .i64) a1
  obtain ⟨b, s1, _⟩ := arg_sl (Tells.int .i64) a2
  obtain ⟨n, rfl, _, _⟩ := arg_int a3
  obtain ⟨m, r, h', k1, rfl⟩ := flowAny_law (p := ⟨S.pg, prL⟩) rfl (by decide) (l := [429]) rfl (by decide) (room := n) s0 s1
  exact ⟨m, h', k1⟩

set_option maxRecDepth 100000 in
theorem flowAny_lifted (os : Os) (started : os.Started) (H : Type) (enc : TypeId × Value → H) :
    ReturnsInHanded {} Tryz.checked os 3 .any (fun w args => (Rows.flowAnySpec.pre enc Tryz.prog Tryz.f3 Rows.flowAnyRow.domain false w args ∧ laidMetH Tryz.prog Rows.flowAnyRow.laid w) ∧ sizedMet enc Tryz.prog Tryz.f3 (OpenSpec.ofChange Rows.flowAnySpec) false w args)
      (Rows.flowAnySpec.post enc Tryz.prog Tryz.f3 false true false false) :=
  law_lifted_laid (C := Tryz.checked) (tys := [.sl (.int .i64), .sl (.int .i64), .int .i64]) (g := 428) (Pg := S.pg) (pr := prL) (G := gam) (tb := 4) (X := fun w _ => laidMetH Tryz.prog Rows.flowAnyRow.laid w) (fun _ _ _ hh h => h.of_heap hh) own started (by kernel_rfl) Tryz.func3
    (ChangeSpec.witness_shaped (enc := enc) (C := Tryz.checked) (os := os) (X := fun w _ => laidMetH Tryz.prog Rows.flowAnyRow.laid w) false (World.laidAll Tryz.prog os Rows.flowAnyRow.laid) #[.slice none 0 0, .slice none 0 0, .int .i64 0] 8 (World.laidAll_os _ _ _)
      (World.shaped_of_ZipB (by kernel_rfl) (by kernel_rfl)) (by kernel_rfl) (by kernel_rfl) (by kernel_rfl)
      (by rw [MakeChecks.laidMetH_plain _ _ _ (by kernel_rfl)]; exact laidMet_laidAll _ (by kernel_rfl) (by kernel_rfl)))
    rfl (fun ds hd => by match ds, hd with | [_, _, _], _ => rfl) (by kernel_rfl) (by kernel_rfl) laidOut (by kernel_rfl) (by kernel_rfl) mixed good linked primsL (by kernel_rfl)
    (fun W _ hx hs => noPins W) flowAny_clean

theorem flowAny_row : Rows.FlowAnySaid :=
  OpenClaim.holds_of_wide 3 Tryz.f3 rfl rfl rfl rfl rfl rfl rfl ⟨rfl, rfl, rfl, rfl, rfl⟩ rfl rfl rfl rfl rfl (by kernel_rfl) Tryz.func3 (by kernel_rfl)
    (of_decide_eq_true (by kernel_rfl)) (by unfold Func.isWrapper; first | (rw [if_pos (by decide +kernel)]; kernel_rfl) | (rw [if_neg (by decide +kernel)]; exact ⟨rfl, rfl⟩))
    (fun os started H enc _ => flowAny_lifted os started H enc)

theorem flowAny_holds : Rows.FlowAnyCardSaid :=
  Claim7.holds_tied_plain_at .later [] [.data, .pinned] true (true, "3049bfe6760972a643ba83d8f4249be03934394b924b259dadc8321ae7cb0487") false flowAny_row (fun _ h => by cases h) (by kernel_rfl) (fun _ h => by cases h) flowAny_row_tie rfl ⟨rfl, rfl⟩ (by kernel_rfl) rfl
    (fun f fn hf hfn => by
      obtain rfl : f = 3 := Option.some.inj ((show Tryz.prog.funcNamed "watchbill/watchbilllaw26.FlowAny" = some 3 by kernel_rfl).symm.trans hf) |>.symm
      obtain rfl : fn = Tryz.f3 := (Option.some.inj (Tryz.func3.symm.trans hfn)).symm
      exact ⟨by kernel_rfl, fun j t ht => by
        have hall : (Tryz.f3.params.toList.all fun u => !Tryz.prog.wantsStandIn u) = true := by kernel_rfl
        have hm : t ∈ Tryz.f3.params.toList := by simpa using Array.mem_of_getElem? ht
        exact (show Tryz.prog.wantsStandIn t = false by simpa using List.all_eq_true.1 hall t hm)⟩)
    (by kernel_rfl)

end Go.Proofs.YtdoddbmnmpgpmaaGreatDoor
