/-
  'ScriptSizes' returns true however many ticks, asks, whoever asks; the card ties what the listed variables hold to the program's text.
-/
import Derived.Test.YtnfajbkbmlmdoaaGreatDoorMC
import Derived.Test.YtnfajbkbmlmdoaaGreatDoorAScS
import Derived.Test.YtnfajbkbmlmdoaaGreatDoorM4
namespace Go.Proofs.YtnfajbkbmlmdoaaGreatDoor
open Go Go.Cl

theorem scriptSizes_clean (h : Heap) (args : List CV) (ha : ArgL h [.int .u16, .int .u8, .int .i8] args) : ∃ n h', evCall S.pg prS n 468 args h = some (.bool true, h') := by
  obtain ⟨v, w, x, rfl, a1, a2, a3⟩ := argL3 ha
  obtain ⟨x0, rfl, l0, u0⟩ := arg_int a1
  obtain ⟨x1, rfl, l1, u1⟩ := arg_int a2
  obtain ⟨x2, rfl, l2, u2⟩ := arg_int a3
  obtain ⟨m, r, h', k1, rfl⟩ := sizes_law (p := ⟨S.pg, prS⟩) rfl (l := [457]) (pr := addRing lib) rfl (by decide) rfl rfl rfl rfl rfl (h := h) l0 u0 l1 u1 l2 u2
  exact ⟨m, h', k1⟩

set_option maxRecDepth 100000 in
theorem scriptSizes_lifted (os : Os) (started : os.Started) (H : Type) (enc : TypeId × Value → H) :
    ReturnsInHanded {} Tryz.checked os 5 .any (fun w args => (Rows.scriptSizesSpec.pre enc Tryz.prog Tryz.f5 Rows.scriptSizesRow.domain false w args ∧ laidMetH Tryz.prog Rows.scriptSizesRow.laid w) ∧ sizedMet enc Tryz.prog Tryz.f5 (OpenSpec.ofChange Rows.scriptSizesSpec) false w args)
      (Rows.scriptSizesSpec.post enc Tryz.prog Tryz.f5 false true false false) :=
  law_lifted_laid (C := Tryz.checked) (tys := [.int .u16, .int .u8, .int .i8]) (g := 468) (Pg := S.pg) (pr := prS) (G := gam) (tb := 4) (X := fun w _ => laidMetH Tryz.prog Rows.scriptSizesRow.laid w) (fun _ _ _ hh h => h.of_heap hh) own started (by kernel_rfl) Tryz.func5
    (ChangeSpec.witness_shaped (enc := enc) (C := Tryz.checked) (os := os) (X := fun w _ => laidMetH Tryz.prog Rows.scriptSizesRow.laid w) false (World.laidAll Tryz.prog os Rows.scriptSizesRow.laid) #[.int .u16 0, .int .u8 0, .int .i8 0] 8 (World.laidAll_os _ _ _)
      (World.shaped_of_ZipB (by kernel_rfl) (by kernel_rfl)) (by kernel_rfl) (by kernel_rfl) (by kernel_rfl)
      (by rw [MakeChecks.laidMetH_plain _ _ _ (by kernel_rfl)]; exact laidMet_laidAll _ (by kernel_rfl) (by kernel_rfl)))
    rfl (fun ds hd => by match ds, hd with | [_, _, _], _ => rfl) (by kernel_rfl) (by kernel_rfl) laidOut (by kernel_rfl) (by kernel_rfl) mixed good linked primsS (by kernel_rfl)
    (fun W _ hx hs => pins_of (by kernel_rfl) (by kernel_rfl) (by kernel_rfl) (by kernel_rfl) hx hs) scriptSizes_clean

theorem scriptSizes_row : Rows.ScriptSizesSaid :=
  OpenClaim.holds_of_wide 5 Tryz.f5 rfl rfl rfl rfl rfl rfl rfl ⟨rfl, rfl, rfl, rfl, rfl⟩ rfl rfl rfl rfl rfl (by kernel_rfl) Tryz.func5 (by kernel_rfl)
    (of_decide_eq_true (by kernel_rfl)) (by unfold Func.isWrapper; first | (rw [if_pos (by decide +kernel)]; kernel_rfl) | (rw [if_neg (by decide +kernel)]; exact ⟨rfl, rfl⟩))
    (fun os started H enc _ => scriptSizes_lifted os started H enc)

theorem scriptSizes_holds : Rows.ScriptSizesCardSaid :=
  Claim7.holds_tied_plain_at .later [] [.data, .data, .data, .data, .sentinel, .sentinel, .pinned] true (true, "c66e76124bf0ba813d1948cb1563ae7aa6a96eb12b6756cdbc1388d172234eac") true scriptSizes_row (fun _ h => by cases h) (by kernel_rfl) (fun _ h => by cases h) scriptSizes_row_tie rfl ⟨rfl, rfl⟩ (by kernel_rfl) rfl
    (fun f fn hf hfn => by
      obtain rfl : f = 5 := Option.some.inj ((show Tryz.prog.funcNamed "watchbill/watchbilllaw24.ScriptSizes" = some 5 by kernel_rfl).symm.trans hf) |>.symm
      obtain rfl : fn = Tryz.f5 := (Option.some.inj (Tryz.func5.symm.trans hfn)).symm
      exact ⟨by kernel_rfl, fun j t ht => by
        have hall : (Tryz.f5.params.toList.all fun u => !Tryz.prog.wantsStandIn u) = true := by kernel_rfl
        have hm : t ∈ Tryz.f5.params.toList := by simpa using Array.mem_of_getElem? ht
        exact (show Tryz.prog.wantsStandIn t = false by simpa using List.all_eq_true.1 hall t hm)⟩)
    (by kernel_rfl)

end Go.Proofs.YtnfajbkbmlmdoaaGreatDoor
