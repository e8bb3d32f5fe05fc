/-
  'TextLongs' returns true whatever the three numbers; the card ties what the listed variables hold to the program's text.
-/
import Derived.Test.YtdbakplieenefaaGreatDoorM6
import Derived.Test.YtdbakplieenefaaGreatDoorMF
import Derived.Test.YtdbakplieenefaaGreatDoorM4
namespace Go.Proofs.YtdbakplieenefaaGreatDoor
open Go Go.Cl
theorem textLongs_clean (h : Heap) (args : List CV) (ha : ArgL h [.int .u8, .int .u8, .int .u8] args) : ∃ n h', evCall S.pg lib n 258 args h = some (.bool true, h') := by
 obtain ⟨v, w, z, rfl, ha1, ha2, ha3⟩ := argL3 ha
 obtain ⟨a, rfl, a0, a1⟩ := arg_int ha1
 obtain ⟨b, rfl, b0, b1⟩ := arg_int ha2
 obtain ⟨c, rfl, c0, c1⟩ := arg_int ha3
 obtain ⟨n, r, h', k1, rfl⟩ := textLongs_law (p := ⟨S.pg, lib⟩) ⟨rfl, fun _ _ => rfl⟩ rfl (n := a) (m := b) (k := c) (h := h) a0 a1 b0 b1 c0 c1
 exact ⟨n, h', k1⟩
set_option maxRecDepth 100000 in
theorem textLongs_lifted (os : Os) (started : os.Started) (H : Type) (enc : TypeId × Value → H) :
  ReturnsInHanded {} Tryz.checked os 6 .any (fun w args => (Rows.textLongsSpec.pre enc Tryz.prog Tryz.f6 Rows.textLongsRow.domain false w args ∧ laidMetH Tryz.prog Rows.textLongsRow.laid w) ∧ sizedMet enc Tryz.prog Tryz.f6 (OpenSpec.ofChange Rows.textLongsSpec) false w args)
   (Rows.textLongsSpec.post enc Tryz.prog Tryz.f6 false true false false) :=
 law_lifted_laid (C := Tryz.checked) (tys := [.int .u8, .int .u8, .int .u8]) (g := 258) (Pg := S.pg) (pr := lib) (G := gam) (tb := 4) (X := fun w _ => laidMetH Tryz.prog Rows.textLongsRow.laid w) (fun _ _ _ hh h => h.of_heap hh) own started (by kernel_rfl) Tryz.func6
  (ChangeSpec.witness_shaped (enc := enc) (C := Tryz.checked) (os := os) (X := fun w _ => laidMetH Tryz.prog Rows.textLongsRow.laid w) false (World.laidAll Tryz.prog os Rows.textLongsRow.laid) #[.int .u8 0, .int .u8 0, .int .u8 0] 8 (World.laidAll_os _ _ _)
   (World.shaped_of_ZipB (by kernel_rfl) (by kernel_rfl)) (by kernel_rfl) (by kernel_rfl) (by kernel_rfl)
   (by rw [MakeChecks.laidMetH_plain _ _ _ (by kernel_rfl)]; exact laidMet_laidAll _ (by kernel_rfl) (by kernel_rfl)))
  rfl (fun ds hd => by match ds, hd with | [_, _, _], _ => rfl) (by kernel_rfl) (by kernel_rfl) laidOut (by kernel_rfl) (by kernel_rfl) mixed good linked lib_ok (by kernel_rfl)
  (fun W _ hx hs => pins_of (by kernel_rfl) (by kernel_rfl) (by kernel_rfl) (by kernel_rfl) hx hs) textLongs_clean
theorem textLongs_row : Rows.TextLongsSaid :=
 OpenClaim.holds_of_wide 6 Tryz.f6 rfl rfl rfl rfl rfl rfl rfl ⟨rfl, rfl, rfl, rfl, rfl⟩ rfl rfl rfl rfl rfl (by kernel_rfl) Tryz.func6 (by kernel_rfl)
  (of_decide_eq_true (by kernel_rfl)) (by unfold Func.isWrapper; first | (rw [if_pos (by decide +kernel)]; kernel_rfl) | (rw [if_neg (by decide +kernel)]; exact ⟨rfl, rfl⟩))
  (fun os started H enc _ => textLongs_lifted os started H enc)
theorem textLongs_holds : Rows.TextLongsCardSaid :=
 Claim7.holds_tied_plain_at .later [] [.data, .data, .data, .data, .sentinel, .sentinel, .pinned] true (true, "8fa90aee99c1814a2951cc298a3023d68442f821ed82025e42d486729b3d6b8f") true textLongs_row (fun _ h => by cases h) (by kernel_rfl) (fun _ h => by cases h) textLongs_row_tie rfl ⟨rfl, rfl⟩ (by kernel_rfl) rfl
  (fun f fn hf hfn => by
   obtain rfl : f = 6 := Option.some.inj ((show Tryz.prog.funcNamed "watchbill/watchbilllaw8.TextLongs" = some 6 by kernel_rfl).symm.trans hf) |>.symm
   obtain rfl : fn = Tryz.f6 := (Option.some.inj (Tryz.func6.symm.trans hfn)).symm
   exact ⟨by kernel_rfl, fun j t ht => by
    have hall : (Tryz.f6.params.toList.all fun u => !Tryz.prog.wantsStandIn u) = true := by kernel_rfl
    have hm : t ∈ Tryz.f6.params.toList := by simpa using Array.mem_of_getElem? ht
    exact (show Tryz.prog.wantsStandIn t = false by simpa using List.all_eq_true.1 hall t hm)⟩)
  (by kernel_rfl)
end Go.Proofs.YtdbakplieenefaaGreatDoor
