/-
  'TextReads' returns true whatever the text; the card ties what the listed variables hold to the program's text.
-/
import Derived.Test.YtdbakplieenefaaGreatDoorM6
import Derived.Test.YtdbakplieenefaaGreatDoorMF
import Derived.Test.YtdbakplieenefaaGreatDoorM4
namespace Go.Proofs.YtdbakplieenefaaGreatDoor
open Go Go.Cl
theorem textReads_clean (h : Heap) (args : List CV) (ha : ArgL h [.str] args) : ∃ n h', evCall S.pg lib n 254 args h = some (.bool true, h') := by
 obtain ⟨v, rfl, ha1⟩ := argL1 ha
 obtain ⟨s, rfl, _⟩ := arg_str ha1
 obtain ⟨n, r, h', k1, rfl⟩ := textReads_law (p := ⟨S.pg, lib⟩) ⟨rfl, fun _ _ => rfl⟩ rfl (s := s) (h := h)
 exact ⟨n, h', k1⟩
set_option maxRecDepth 100000 in
theorem textReads_lifted (os : Os) (started : os.Started) (H : Type) (enc : TypeId × Value → H) :
  ReturnsInHanded {} Tryz.checked os 4 .any (fun w args => (Rows.textReadsSpec.pre enc Tryz.prog Tryz.f4 Rows.textReadsRow.domain false w args ∧ laidMetH Tryz.prog Rows.textReadsRow.laid w) ∧ sizedMet enc Tryz.prog Tryz.f4 (OpenSpec.ofChange Rows.textReadsSpec) false w args)
   (Rows.textReadsSpec.post enc Tryz.prog Tryz.f4 false true false false) :=
 law_lifted_laid (C := Tryz.checked) (tys := [.str]) (g := 254) (Pg := S.pg) (pr := lib) (G := gam) (tb := 4) (X := fun w _ => laidMetH Tryz.prog Rows.textReadsRow.laid w) (fun _ _ _ hh h => h.of_heap hh) own started (by kernel_rfl) Tryz.func4
  (ChangeSpec.witness_shaped (enc := enc) (C := Tryz.checked) (os := os) (X := fun w _ => laidMetH Tryz.prog Rows.textReadsRow.laid w) false (World.laidAll Tryz.prog os Rows.textReadsRow.laid) #[.string ⟨#[]⟩] 8 (World.laidAll_os _ _ _)
   (World.shaped_of_ZipB (by kernel_rfl) (by kernel_rfl)) (by kernel_rfl) (by kernel_rfl) (by kernel_rfl)
   (by rw [MakeChecks.laidMetH_plain _ _ _ (by kernel_rfl)]; exact laidMet_laidAll _ (by kernel_rfl) (by kernel_rfl)))
  rfl (fun ds hd => by match ds, hd with | [_], _ => rfl) (by kernel_rfl) (by kernel_rfl) laidOut (by kernel_rfl) (by kernel_rfl) mixed good linked lib_ok (by kernel_rfl)
  (fun W _ hx hs => pins_of (by kernel_rfl) (by kernel_rfl) (by kernel_rfl) (by kernel_rfl) hx hs) textReads_clean
theorem textReads_row : Rows.TextReadsSaid :=
 OpenClaim.holds_of_wide 4 Tryz.f4 rfl rfl rfl rfl rfl rfl rfl ⟨rfl, rfl, rfl, rfl, rfl⟩ rfl rfl rfl rfl rfl (by kernel_rfl) Tryz.func4 (by kernel_rfl)
  (of_decide_eq_true (by kernel_rfl)) (by unfold Func.isWrapper; first | (rw [if_pos (by decide +kernel)]; kernel_rfl) | (rw [if_neg (by decide +kernel)]; exact ⟨rfl, rfl⟩))
  (fun os started H enc _ => textReads_lifted os started H enc)
theorem textReads_holds : Rows.TextReadsCardSaid :=
 Claim7.holds_tied_plain_at .later [] [.data, .data, .data, .data, .sentinel, .sentinel, .pinned] true (true, "8fa90aee99c1814a2951cc298a3023d68442f821ed82025e42d486729b3d6b8f") true textReads_row (fun _ h => by cases h) (by kernel_rfl) (fun _ h => by cases h) textReads_row_tie rfl ⟨rfl, rfl⟩ (by kernel_rfl) rfl
  (fun f fn hf hfn => by
   obtain rfl : f = 4 := Option.some.inj ((show Tryz.prog.funcNamed "watchbill/watchbilllaw8.TextReads" = some 4 by kernel_rfl).symm.trans hf) |>.symm
   obtain rfl : fn = Tryz.f4 := (Option.some.inj (Tryz.func4.symm.trans hfn)).symm
   exact ⟨by kernel_rfl, fun j t ht => by
    have hall : (Tryz.f4.params.toList.all fun u => !Tryz.prog.wantsStandIn u) = true := by kernel_rfl
    have hm : t ∈ Tryz.f4.params.toList := by simpa using Array.mem_of_getElem? ht
    exact (show Tryz.prog.wantsStandIn t = false by simpa using List.all_eq_true.1 hall t hm)⟩)
  (by kernel_rfl)
end Go.Proofs.YtdbakplieenefaaGreatDoor
