/-
  'TextLines' returns true whatever the set, the cut, the line more; its arguments read as they did; the card ties what the listed variables hold to the program's text.
-/
import Derived.Test.YtdbakplieenefaaGreatDoorM6
import Derived.Test.YtdbakplieenefaaGreatDoorMF
import Derived.Test.YtdbakplieenefaaGreatDoorM4
namespace Go.Proofs.YtdbakplieenefaaGreatDoor
open Go Go.Cl
theorem textLines_clean (h : Heap) (args : List CV) (ha : ArgL h [setTy, .int .u8, .str] args) : ∃ n h', evCall S.pg lib n 256 args h = some (.bool true, h') := by
 obtain ⟨v, w, z, rfl, ha1, ha2, ha3⟩ := argL3 ha
 obtain ⟨c, x, rfl, rx, hx⟩ := arg_st tellsSet rfl ha1
 obtain ⟨cut, rfl, q0, q1⟩ := arg_int ha2
 obtain ⟨more, rfl, _⟩ := arg_str ha3
 obtain ⟨n, r, h', k1, rfl⟩ := textLines_law (p := ⟨S.pg, lib⟩) ⟨rfl, fun _ _ => rfl⟩ rfl (cut := cut) (more := more) rx hx q0 q1
 exact ⟨n, h', k1⟩
set_option maxRecDepth 100000 in
theorem textLines_lifted (os : Os) (started : os.Started) (H : Type) (enc : TypeId × Value → H) :
  ReturnsInHanded {} Tryz.checked os 5 .any (fun w args => (Rows.textLinesSpec.pre enc Tryz.prog Tryz.f5 Rows.textLinesRow.domain false w args ∧ laidMetH Tryz.prog Rows.textLinesRow.laid w) ∧ sizedMet enc Tryz.prog Tryz.f5 (OpenSpec.ofChange Rows.textLinesSpec) false w args)
   (Rows.textLinesSpec.post enc Tryz.prog Tryz.f5 false true false false) :=
 law_lifted_laid (C := Tryz.checked) (tys := [setTy, .int .u8, .str]) (g := 256) (Pg := S.pg) (pr := lib) (G := gam) (tb := 4) (X := fun w _ => laidMetH Tryz.prog Rows.textLinesRow.laid w) (fun _ _ _ hh h => h.of_heap hh) own started (by kernel_rfl) Tryz.func5
  (ChangeSpec.witness_shaped (enc := enc) (C := Tryz.checked) (os := os) (X := fun w _ => laidMetH Tryz.prog Rows.textLinesRow.laid w) false (World.laidAll Tryz.prog os Rows.textLinesRow.laid) #[.agg #[.int .i64 0, .slice none 0 0, .slice none 0 0], .int .u8 0, .string ⟨#[]⟩] 8 (World.laidAll_os _ _ _)
   (World.shaped_of_ZipB (by kernel_rfl) (by kernel_rfl)) (by kernel_rfl) (by kernel_rfl) (by kernel_rfl)
   (by rw [MakeChecks.laidMetH_plain _ _ _ (by kernel_rfl)]; exact laidMet_laidAll _ (by kernel_rfl) (by kernel_rfl)))
  rfl (fun ds hd => by match ds, hd with | [_, _, _], _ => rfl) (by kernel_rfl) (by kernel_rfl) laidOut (by kernel_rfl) (by kernel_rfl) mixed good linked lib_ok (by kernel_rfl)
  (fun W _ hx hs => pins_of (by kernel_rfl) (by kernel_rfl) (by kernel_rfl) (by kernel_rfl) hx hs) textLines_clean
theorem textLines_row : Rows.TextLinesSaid :=
 OpenClaim.holds_of_wide 5 Tryz.f5 rfl rfl rfl rfl rfl rfl rfl ⟨rfl, rfl, rfl, rfl, rfl⟩ rfl rfl rfl rfl rfl (by kernel_rfl) Tryz.func5 (by kernel_rfl)
  (of_decide_eq_true (by kernel_rfl)) (by unfold Func.isWrapper; first | (rw [if_pos (by decide +kernel)]; kernel_rfl) | (rw [if_neg (by decide +kernel)]; exact ⟨rfl, rfl⟩))
  (fun os started H enc _ => textLines_lifted os started H enc)
theorem textLines_holds : Rows.TextLinesCardSaid :=
 Claim7.holds_tied_plain_at .later [] [.data, .data, .data, .data, .sentinel, .sentinel, .pinned] true (true, "8fa90aee99c1814a2951cc298a3023d68442f821ed82025e42d486729b3d6b8f") true textLines_row (fun _ h => by cases h) (by kernel_rfl) (fun _ h => by cases h) textLines_row_tie rfl ⟨rfl, rfl⟩ (by kernel_rfl) rfl
  (fun f fn hf hfn => by
   obtain rfl : f = 5 := Option.some.inj ((show Tryz.prog.funcNamed "watchbill/watchbilllaw8.TextLines" = some 5 by kernel_rfl).symm.trans hf) |>.symm
   obtain rfl : fn = Tryz.f5 := (Option.some.inj (Tryz.func5.symm.trans hfn)).symm
   exact ⟨by kernel_rfl, fun j t ht => by
    have hall : (Tryz.f5.params.toList.all fun u => !Tryz.prog.wantsStandIn u) = true := by kernel_rfl
    have hm : t ∈ Tryz.f5.params.toList := by simpa using Array.mem_of_getElem? ht
    exact (show Tryz.prog.wantsStandIn t = false by simpa using List.all_eq_true.1 hall t hm)⟩)
  (by kernel_rfl)
end Go.Proofs.YtdbakplieenefaaGreatDoor
