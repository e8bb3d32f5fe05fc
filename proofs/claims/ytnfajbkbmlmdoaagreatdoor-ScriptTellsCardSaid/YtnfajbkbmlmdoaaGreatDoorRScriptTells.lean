/-
  'ScriptTells' returns true for any two scripts; the card ties what the listed variables hold to the program's text.
-/
import Derived.Test.YtnfajbkbmlmdoaaGreatDoorMC
import Derived.Test.YtnfajbkbmlmdoaaGreatDoorMB
import Derived.Test.YtnfajbkbmlmdoaaGreatDoorM4
namespace Go.Proofs.YtnfajbkbmlmdoaaGreatDoor
open Go Go.Cl

theorem scriptTells_clean (h : Heap) (args : List CV) (ha : ArgL h [.sl (.sl (.int .i64)), .sl (.sl (.int .i64))] args) : ∃ n h', evCall S.pg (addKnown [457] lib) n 456 args h = some (.bool true, h') := by
  obtain ⟨v, w, rfl, a1, a2⟩ := argL2 ha
  obtain ⟨a, s0, _⟩ := arg_sl (Tells.sl (Tells.int .i64)) a1
  obtain ⟨b, s1, _⟩ := arg_sl (Tells.sl (Tells.int .i64)) a2
  obtain ⟨n, r, h', k1, rfl⟩ := scriptTells_law (p := ⟨S.pg, addKnown [457] lib⟩) (LP.of [457] (by decide)) rfl s0 s1
  exact ⟨n, h', k1⟩

set_option maxRecDepth 100000 in
theorem scriptTells_lifted (os : Os) (started : os.Started) (H : Type) (enc : TypeId × Value → H) :
    ReturnsInHanded {} Tryz.checked os 3 .any (fun w args => (Rows.scriptTellsSpec.pre enc Tryz.prog Tryz.f3 Rows.scriptTellsRow.domain false w args ∧ laidMetH Tryz.prog Rows.scriptTellsRow.laid w) ∧ sizedMet enc Tryz.prog Tryz.f3 (OpenSpec.ofChange Rows.scriptTellsSpec) false w args)
      (Rows.scriptTellsSpec.post enc Tryz.prog Tryz.f3 false true false false) :=
  law_lifted_laid (C := Tryz.checked) (tys := [.sl (.sl (.int .i64)), .sl (.sl (.int .i64))]) (g := 456) (Pg := S.pg) (pr := (addKnown [457] lib)) (G := gam) (tb := 4) (X := fun w _ => laidMetH Tryz.prog Rows.scriptTellsRow.laid w) (fun _ _ _ hh h => h.of_heap hh) own started (by kernel_rfl) Tryz.func3
    (ChangeSpec.witness_shaped (enc := enc) (C := Tryz.checked) (os := os) (X := fun w _ => laidMetH Tryz.prog Rows.scriptTellsRow.laid w) false (World.laidAll Tryz.prog os Rows.scriptTellsRow.laid) #[.slice none 0 0, .slice none 0 0] 8 (World.laidAll_os _ _ _)
      (World.shaped_of_ZipB (by kernel_rfl) (by kernel_rfl)) (by kernel_rfl) (by kernel_rfl) (by kernel_rfl)
      (by rw [MakeChecks.laidMetH_plain _ _ _ (by kernel_rfl)]; exact laidMet_laidAll _ (by kernel_rfl) (by kernel_rfl)))
    rfl (fun ds hd => by match ds, hd with | [_, _], _ => rfl) (by kernel_rfl) (by kernel_rfl) laidOut (by kernel_rfl) (by kernel_rfl) mixed good linked primsS2 (by kernel_rfl)
    (fun W _ hx hs => pins_of (by kernel_rfl) (by kernel_rfl) (by kernel_rfl) (by kernel_rfl) hx hs) scriptTells_clean

theorem scriptTells_row : Rows.ScriptTellsSaid :=
  OpenClaim.holds_of_wide 3 Tryz.f3 rfl rfl rfl rfl rfl rfl rfl ⟨rfl, rfl, rfl, rfl, rfl⟩ rfl rfl rfl rfl rfl (by kernel_rfl) Tryz.func3 (by kernel_rfl)
    (of_decide_eq_true (by kernel_rfl)) (by unfold Func.isWrapper; first | (rw [if_pos (by decide +kernel)]; kernel_rfl) | (rw [if_neg (by decide +kernel)]; exact ⟨rfl, rfl⟩))
    (fun os started H enc _ => scriptTells_lifted os started H enc)

theorem scriptTells_holds : Rows.ScriptTellsCardSaid :=
  Claim7.holds_tied_plain_at .later [] [.data, .data, .data, .data, .sentinel, .sentinel, .pinned] true (true, "c66e76124bf0ba813d1948cb1563ae7aa6a96eb12b6756cdbc1388d172234eac") true scriptTells_row (fun _ h => by cases h) (by kernel_rfl) (fun _ h => by cases h) scriptTells_row_tie rfl ⟨rfl, rfl⟩ (by kernel_rfl) rfl
    (fun f fn hf hfn => by
      obtain rfl : f = 3 := Option.some.inj ((show Tryz.prog.funcNamed "watchbill/watchbilllaw24.ScriptTells" = some 3 by kernel_rfl).symm.trans hf) |>.symm
      obtain rfl : fn = Tryz.f3 := (Option.some.inj (Tryz.func3.symm.trans hfn)).symm
      exact ⟨by kernel_rfl, fun j t ht => by
        have hall : (Tryz.f3.params.toList.all fun u => !Tryz.prog.wantsStandIn u) = true := by kernel_rfl
        have hm : t ∈ Tryz.f3.params.toList := by simpa using Array.mem_of_getElem? ht
        exact (show Tryz.prog.wantsStandIn t = false by simpa using List.all_eq_true.1 hall t hm)⟩)
    (by kernel_rfl)

end Go.Proofs.YtnfajbkbmlmdoaaGreatDoor
