/-
  'WordJoins' returns true whatever the texts; its arguments read as they did; the card ties what the listed variables hold to the program's text.
-/
import Derived.Test.YtiegjnklhafloaaDoorRBW
import Derived.Test.YtiegjnklhafloaaDoorAWordJ
namespace Go.Proofs.YtiegjnklhafloaaDoor
open Go Go.Cl

theorem wordJoins_clean (h : Heap) (args : List CV) (ha : ArgL h [.sl .str] args) : ∃ n h', evCall S.pg (addKnown [89] lib) n 102 args h = some (.bool true, h') := by
  obtain ⟨v, rfl, ha1⟩ := argL1 ha
  obtain ⟨l, s0, _⟩ := arg_sl Tells.str ha1
  obtain ⟨n, r, h', k1, rfl⟩ := wordJoins_law (p := ⟨S.pg, addKnown [89] lib⟩) (LP.of [89] (by decide)) rfl s0
  exact ⟨n, h', k1⟩

set_option maxRecDepth 100000 in
theorem wordJoins_lifted (os : Os) (started : os.Started) (H : Type) (enc : TypeId × Value → H) :
    ReturnsInHanded {} Tryd.checked os 5 .any (fun w args => (Rows.wordJoinsSpec.pre enc Tryd.prog Tryd.f5 Rows.wordJoinsRow.domain false w args ∧ laidMetH Tryd.prog Rows.wordJoinsRow.laid w) ∧ sizedMet enc Tryd.prog Tryd.f5 (OpenSpec.ofChange Rows.wordJoinsSpec) false w args)
      (Rows.wordJoinsSpec.post enc Tryd.prog Tryd.f5 false true false false) :=
  law_lifted_laid (C := Tryd.checked) (tys := [.sl .str]) (g := 102) (Pg := S.pg) (pr := (addKnown [89] lib)) (G := gam) (tb := 4) (X := fun w _ => laidMetH Tryd.prog Rows.wordJoinsRow.laid w) (fun _ _ _ hh h => h.of_heap hh) own started (by kernel_rfl) Tryd.func5
    (ChangeSpec.witness_shaped (enc := enc) (C := Tryd.checked) (os := os) (X := fun w _ => laidMetH Tryd.prog Rows.wordJoinsRow.laid w) false (World.laidAll Tryd.prog os Rows.wordJoinsRow.laid) #[.slice none 0 0] 8 (World.laidAll_os _ _ _)
      (World.shaped_of_ZipB (by kernel_rfl) (by kernel_rfl)) (by kernel_rfl) (by kernel_rfl) (by kernel_rfl)
      (by rw [MakeChecks.laidMetH_plain _ _ _ (by kernel_rfl)]; exact laidMet_laidAll _ (by kernel_rfl) (by kernel_rfl)))
    rfl (fun ds hd => by match ds, hd with | [_], _ => rfl) (by kernel_rfl) (by kernel_rfl) laidOut (by kernel_rfl) (by kernel_rfl) mixed good linked primsWord (by kernel_rfl)
    (fun W _ hx hs => pins_of (by kernel_rfl) (by kernel_rfl) (by kernel_rfl) (by kernel_rfl) hx hs) wordJoins_clean

theorem wordJoins_row : Rows.WordJoinsSaid :=
  OpenClaim.holds_of_wide 5 Tryd.f5 rfl rfl rfl rfl rfl rfl rfl ⟨rfl, rfl, rfl, rfl, rfl⟩ rfl rfl rfl rfl rfl (by kernel_rfl) Tryd.func5 (by kernel_rfl)
    (of_decide_eq_true (by kernel_rfl)) (by unfold Func.isWrapper; first | (rw [if_pos (by decide +kernel)]; kernel_rfl) | (rw [if_neg (by decide +kernel)]; exact ⟨rfl, rfl⟩))
    (fun os started H enc _ => wordJoins_lifted os started H enc)

theorem wordJoins_holds : Rows.WordJoinsCardSaid :=
  Claim7.holds_tied_plain_at .later [] [.data, .data, .data, .data, .sentinel, .sentinel, .pinned] true (true, "7c6f7b902114c129c6eee9bbefadd336c69aa9aefb85892e9304d0c0e18d7f94") true wordJoins_row (fun _ h => by cases h) (by kernel_rfl) (fun _ h => by cases h) wordJoins_row_tie rfl ⟨rfl, rfl⟩ (by kernel_rfl) rfl
    (fun f fn hf hfn => by
      obtain rfl : f = 5 := Option.some.inj ((show Tryd.prog.funcNamed "watchbill/watchbilllaw4.WordJoins" = some 5 by kernel_rfl).symm.trans hf) |>.symm
      obtain rfl : fn = Tryd.f5 := (Option.some.inj (Tryd.func5.symm.trans hfn)).symm
      exact ⟨by kernel_rfl, fun j t ht => by
        have hall : (Tryd.f5.params.toList.all fun u => !Tryd.prog.wantsStandIn u) = true := by kernel_rfl
        have hm : t ∈ Tryd.f5.params.toList := by simpa using Array.mem_of_getElem? ht
        exact (show Tryd.prog.wantsStandIn t = false by simpa using List.all_eq_true.1 hall t hm)⟩)
    (by kernel_rfl)

end Go.Proofs.YtiegjnklhafloaaDoor
