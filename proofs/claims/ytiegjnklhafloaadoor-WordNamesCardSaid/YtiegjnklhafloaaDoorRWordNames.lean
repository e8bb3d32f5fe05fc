/-
  'WordNames' returns true however long, whichever byte, wherever; its arguments read as they did; the card ties what the listed variables hold to the program's text.
-/
import Derived.Test.YtiegjnklhafloaaDoorRBW
import Derived.Test.YtiegjnklhafloaaDoorAWordO
namespace Go.Proofs.YtiegjnklhafloaaDoor
open Go Go.Cl

theorem wordNames_clean (h : Heap) (args : List CV) (ha : ArgL h [.int .u8, .int .u8, .int .u8] args) : ∃ n h', evCall S.pg (addKnown [89] lib) n 105 args h = some (.bool true, h') := by
  obtain ⟨v, w, u, rfl, ha1, hb1, hc1⟩ := argL3 ha
  obtain ⟨x, rfl, hx⟩ := arg_int ha1
  obtain ⟨y, rfl, hy⟩ := arg_int hb1
  obtain ⟨z, rfl, hz⟩ := arg_int hc1
  obtain ⟨n, r, h', k1, rfl⟩ := wordNames_law (p := ⟨S.pg, addKnown [89] lib⟩) (LP.of [89] (by decide)) rfl (n := x) (c := y) (a := z) (h := h) hx hy hz
  exact ⟨n, h', k1⟩

set_option maxRecDepth 100000 in
theorem wordNames_lifted (os : Os) (started : os.Started) (H : Type) (enc : TypeId × Value → H) :
    ReturnsInHanded {} Tryd.checked os 8 .any (fun w args => (Rows.wordNamesSpec.pre enc Tryd.prog Tryd.f8 Rows.wordNamesRow.domain false w args ∧ laidMetH Tryd.prog Rows.wordNamesRow.laid w) ∧ sizedMet enc Tryd.prog Tryd.f8 (OpenSpec.ofChange Rows.wordNamesSpec) false w args)
      (Rows.wordNamesSpec.post enc Tryd.prog Tryd.f8 false true false false) :=
  law_lifted_laid (C := Tryd.checked) (tys := [.int .u8, .int .u8, .int .u8]) (g := 105) (Pg := S.pg) (pr := (addKnown [89] lib)) (G := gam) (tb := 4) (X := fun w _ => laidMetH Tryd.prog Rows.wordNamesRow.laid w) (fun _ _ _ hh h => h.of_heap hh) own started (by kernel_rfl) Tryd.func8
    (ChangeSpec.witness_shaped (enc := enc) (C := Tryd.checked) (os := os) (X := fun w _ => laidMetH Tryd.prog Rows.wordNamesRow.laid w) false (World.laidAll Tryd.prog os Rows.wordNamesRow.laid) #[.int .u8 0, .int .u8 0, .int .u8 0] 8 (World.laidAll_os _ _ _)
      (World.shaped_of_ZipB (by kernel_rfl) (by kernel_rfl)) (by kernel_rfl) (by kernel_rfl) (by kernel_rfl)
      (by rw [MakeChecks.laidMetH_plain _ _ _ (by kernel_rfl)]; exact laidMet_laidAll _ (by kernel_rfl) (by kernel_rfl)))
    rfl (fun ds hd => by match ds, hd with | [_, _, _], _ => rfl) (by kernel_rfl) (by kernel_rfl) laidOut (by kernel_rfl) (by kernel_rfl) mixed good linked primsWord (by kernel_rfl)
    (fun W _ hx hs => pins_of (by kernel_rfl) (by kernel_rfl) (by kernel_rfl) (by kernel_rfl) hx hs) wordNames_clean

theorem wordNames_row : Rows.WordNamesSaid :=
  OpenClaim.holds_of_wide 8 Tryd.f8 rfl rfl rfl rfl rfl rfl rfl ⟨rfl, rfl, rfl, rfl, rfl⟩ rfl rfl rfl rfl rfl (by kernel_rfl) Tryd.func8 (by kernel_rfl)
    (of_decide_eq_true (by kernel_rfl)) (by unfold Func.isWrapper; first | (rw [if_pos (by decide +kernel)]; kernel_rfl) | (rw [if_neg (by decide +kernel)]; exact ⟨rfl, rfl⟩))
    (fun os started H enc _ => wordNames_lifted os started H enc)

theorem wordNames_holds : Rows.WordNamesCardSaid :=
  Claim7.holds_tied_plain_at .later [] [.data, .data, .data, .data, .sentinel, .sentinel, .pinned] true (true, "7c6f7b902114c129c6eee9bbefadd336c69aa9aefb85892e9304d0c0e18d7f94") true wordNames_row (fun _ h => by cases h) (by kernel_rfl) (fun _ h => by cases h) wordNames_row_tie rfl ⟨rfl, rfl⟩ (by kernel_rfl) rfl
    (fun f fn hf hfn => by
      obtain rfl : f = 8 := Option.some.inj ((show Tryd.prog.funcNamed "watchbill/watchbilllaw4.WordNames" = some 8 by kernel_rfl).symm.trans hf) |>.symm
      obtain rfl : fn = Tryd.f8 := (Option.some.inj (Tryd.func8.symm.trans hfn)).symm
      exact ⟨by kernel_rfl, fun j t ht => by
        have hall : (Tryd.f8.params.toList.all fun u => !Tryd.prog.wantsStandIn u) = true := by kernel_rfl
        have hm : t ∈ Tryd.f8.params.toList := by simpa using Array.mem_of_getElem? ht
        exact (show Tryd.prog.wantsStandIn t = false by simpa using List.all_eq_true.1 hall t hm)⟩)
    (by kernel_rfl)

end Go.Proofs.YtiegjnklhafloaaDoor
