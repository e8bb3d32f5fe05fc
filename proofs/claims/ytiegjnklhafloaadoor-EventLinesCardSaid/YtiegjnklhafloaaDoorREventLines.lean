/-
  'EventLines' returns true whatever the row of numbers; it reads as it did; the card ties what the listed variables hold to the program's text.
-/
import Derived.Test.YtiegjnklhafloaaDoorM9
import Derived.Test.YtiegjnklhafloaaDoorM8
namespace Go.Proofs.YtiegjnklhafloaaDoor
open Go Go.Cl

theorem eventLines_clean (h : Heap) (args : List CV) (ha : ArgL h [.sl (.int .u8)] args) : ∃ n h', evCall S.pg (addKnown [107] lib) n 120 args h = some (.bool true, h') := by
  obtain ⟨v, rfl, ha1⟩ := argL1 ha
  obtain ⟨l, s0, _, hl⟩ := arg_sl (Tells.int .u8) ha1
  obtain ⟨n, r, h', k1, rfl⟩ := eventLines_law (p := ⟨S.pg, addKnown [107] lib⟩) (LP.of [107] (by decide)) rfl s0 hl
  exact ⟨n, h', k1⟩

set_option maxRecDepth 100000 in
theorem eventLines_lifted (os : Os) (started : os.Started) (H : Type) (enc : TypeId × Value → H) :
    ReturnsInHanded {} Tryd.checked os 13 .any (fun w args => (Rows.eventLinesSpec.pre enc Tryd.prog Tryd.f13 Rows.eventLinesRow.domain false w args ∧ laidMetH Tryd.prog Rows.eventLinesRow.laid w) ∧ sizedMet enc Tryd.prog Tryd.f13 (OpenSpec.ofChange Rows.eventLinesSpec) false w args)
      (Rows.eventLinesSpec.post enc Tryd.prog Tryd.f13 false true false false) :=
  law_lifted_laid (C := Tryd.checked) (tys := [.sl (.int .u8)]) (g := 120) (Pg := S.pg) (pr := (addKnown [107] lib)) (G := gam) (tb := 4) (X := fun w _ => laidMetH Tryd.prog Rows.eventLinesRow.laid w) (fun _ _ _ hh h => h.of_heap hh) own started (by kernel_rfl) Tryd.func13
    (ChangeSpec.witness_shaped (enc := enc) (C := Tryd.checked) (os := os) (X := fun w _ => laidMetH Tryd.prog Rows.eventLinesRow.laid w) false (World.laidAll Tryd.prog os Rows.eventLinesRow.laid) #[.slice none 0 0] 8 (World.laidAll_os _ _ _)
      (World.shaped_of_ZipB (by kernel_rfl) (by kernel_rfl)) (by kernel_rfl) (by kernel_rfl) (by kernel_rfl)
      (by rw [MakeChecks.laidMetH_plain _ _ _ (by kernel_rfl)]; exact laidMet_laidAll _ (by kernel_rfl) (by kernel_rfl)))
    rfl (fun ds hd => by match ds, hd with | [_], _ => rfl) (by kernel_rfl) (by kernel_rfl) laidOut (by kernel_rfl) (by kernel_rfl) mixed good linked primsEvent (by kernel_rfl)
    (fun W _ hx hs => pins_of (by kernel_rfl) (by kernel_rfl) (by kernel_rfl) (by kernel_rfl) hx hs) eventLines_clean

theorem eventLines_row : Rows.EventLinesSaid :=
  OpenClaim.holds_of_wide 13 Tryd.f13 rfl rfl rfl rfl rfl rfl rfl ⟨rfl, rfl, rfl, rfl, rfl⟩ rfl rfl rfl rfl rfl (by kernel_rfl) Tryd.func13 (by kernel_rfl)
    (of_decide_eq_true (by kernel_rfl)) (by unfold Func.isWrapper; first | (rw [if_pos (by decide +kernel)]; kernel_rfl) | (rw [if_neg (by decide +kernel)]; exact ⟨rfl, rfl⟩))
    (fun os started H enc _ => eventLines_lifted os started H enc)

theorem eventLines_holds : Rows.EventLinesCardSaid :=
  Claim7.holds_tied_plain_at .later [] [.data, .data, .data, .data, .sentinel, .sentinel, .pinned] true (true, "7c6f7b902114c129c6eee9bbefadd336c69aa9aefb85892e9304d0c0e18d7f94") true eventLines_row (fun _ h => by cases h) (by kernel_rfl) (fun _ h => by cases h) eventLines_row_tie rfl ⟨rfl, rfl⟩ (by kernel_rfl) rfl
    (fun f fn hf hfn => by
      obtain rfl : f = 13 := Option.some.inj ((show Tryd.prog.funcNamed "watchbill/watchbilllaw21.EventLines" = some 13 by kernel_rfl).symm.trans hf) |>.symm
      obtain rfl : fn = Tryd.f13 := (Option.some.inj (Tryd.func13.symm.trans hfn)).symm
      exact ⟨by kernel_rfl, fun j t ht => by
        have hall : (Tryd.f13.params.toList.all fun u => !Tryd.prog.wantsStandIn u) = true := by kernel_rfl
        have hm : t ∈ Tryd.f13.params.toList := by simpa using Array.mem_of_getElem? ht
        exact (show Tryd.prog.wantsStandIn t = false by simpa using List.all_eq_true.1 hall t hm)⟩)
    (by kernel_rfl)

end Go.Proofs.YtiegjnklhafloaaDoor
