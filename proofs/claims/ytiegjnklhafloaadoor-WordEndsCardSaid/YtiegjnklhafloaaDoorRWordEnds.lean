/-
  'WordEnds' returns true whatever the text; its arguments read as they did; the card ties what the listed variables hold to the program's text.
-/
import Derived.Test.YtiegjnklhafloaaDoorRBW
import Derived.Test.YtiegjnklhafloaaDoorAWordJ
namespace Go.Proofs.YtiegjnklhafloaaDoor
open Go Go.Cl

theorem wordEnds_clean (h : Heap) (args : List CV) (ha : ArgL h [.str] args) : ∃ n h', evCall S.pg (addKnown [89] lib) n 103 args h = some (.bool true, h') := by
  obtain ⟨v, rfl, ha1⟩ := argL1 ha
  obtain ⟨s, rfl, _⟩ := arg_str ha1
  obtain ⟨n, r, h', k1, rfl⟩ := wordEnds_law (p := ⟨S.pg, addKnown [89] lib⟩) (LP.of [89] (by decide)) rfl (s := s) (h := h)
  exact ⟨n, h', k1⟩

set_option maxRecDepth 100000 in
theorem wordEnds_lifted (os : Os) (started : os.Started) (H : Type) (enc : TypeId × Value → H) :
    ReturnsInHanded {} Tryd.checked os 6 .any (fun w args => (Rows.wordEndsSpec.pre enc Tryd.prog Tryd.f6 Rows.wordEndsRow.domain false w args ∧ laidMetH Tryd.prog Rows.wordEndsRow.laid w) ∧ sizedMet enc Tryd.prog Tryd.f6 (OpenSpec.ofChange Rows.wordEndsSpec) false w args)
      (Rows.wordEndsSpec.post enc Tryd.prog Tryd.f6 false true false false) :=
  law_lifted_laid (C := Tryd.checked) (tys := [.str]) (g := 103) (Pg := S.pg) (pr := (addKnown [89] lib)) (G := gam) (tb := 4) (X := fun w _ => laidMetH Tryd.prog Rows.wordEndsRow.laid w) (fun _ _ _ hh h => h.of_heap hh) own started (by kernel_rfl) Tryd.func6
    (ChangeSpec.witness_shaped (enc := enc) (C := Tryd.checked) (os := os) (X := fun w _ => laidMetH Tryd.prog Rows.wordEndsRow.laid w) false (World.laidAll Tryd.prog os Rows.wordEndsRow.laid) #[.string ⟨#[]⟩] 8 (World.laidAll_os _ _ _)
      (World.shaped_of_ZipB (by kernel_rfl) (by kernel_rfl)) (by kernel_rfl) (by kernel_rfl) (by kernel_rfl)
      (by rw [MakeChecks.laidMetH_plain _ _ _ (by kernel_rfl)]; exact laidMet_laidAll _ (by kernel_rfl) (by kernel_rfl)))
    rfl (fun ds hd => by match ds, hd with | [_], _ => rfl) (by kernel_rfl) (by kernel_rfl) laidOut (by kernel_rfl) (by kernel_rfl) mixed good linked primsWord (by kernel_rfl)
    (fun W _ hx hs => pins_of (by kernel_rfl) (by kernel_rfl) (by kernel_rfl) (by kernel_rfl) hx hs) wordEnds_clean

theorem wordEnds_row : Rows.WordEndsSaid :=
  OpenClaim.holds_of_wide 6 Tryd.f6 rfl rfl rfl rfl rfl rfl rfl ⟨rfl, rfl, rfl, rfl, rfl⟩ rfl rfl rfl rfl rfl (by kernel_rfl) Tryd.func6 (by kernel_rfl)
    (of_decide_eq_true (by kernel_rfl)) (by unfold Func.isWrapper; first | (rw [if_pos (by decide +kernel)]; kernel_rfl) | (rw [if_neg (by decide +kernel)]; exact ⟨rfl, rfl⟩))
    (fun os started H enc _ => wordEnds_lifted os started H enc)

theorem wordEnds_holds : Rows.WordEndsCardSaid :=
  Claim7.holds_tied_plain_at .later [] [.data, .data, .data, .data, .sentinel, .sentinel, .pinned] true (true, "7c6f7b902114c129c6eee9bbefadd336c69aa9aefb85892e9304d0c0e18d7f94") true wordEnds_row (fun _ h => by cases h) (by kernel_rfl) (fun _ h => by cases h) wordEnds_row_tie rfl ⟨rfl, rfl⟩ (by kernel_rfl) rfl
    (fun f fn hf hfn => by
      obtain rfl : f = 6 := Option.some.inj ((show Tryd.prog.funcNamed "watchbill/watchbilllaw4.WordEnds" = some 6 by kernel_rfl).symm.trans hf) |>.symm
      obtain rfl : fn = Tryd.f6 := (Option.some.inj (Tryd.func6.symm.trans hfn)).symm
      exact ⟨by kernel_rfl, fun j t ht => by
        have hall : (Tryd.f6.params.toList.all fun u => !Tryd.prog.wantsStandIn u) = true := by kernel_rfl
        have hm : t ∈ Tryd.f6.params.toList := by simpa using Array.mem_of_getElem? ht
        exact (show Tryd.prog.wantsStandIn t = false by simpa using List.all_eq_true.1 hall t hm)⟩)
    (by kernel_rfl)

end Go.Proofs.YtiegjnklhafloaaDoor
