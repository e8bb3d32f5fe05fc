/-
  'AuditHeld' returns true whatever the lengths; the card ties what the listed variables hold to the program's text.
-/
import Derived.Test.YtlndogibbgibgaaGreatDoorMM1
import Derived.Test.YtlndogibbgibgaaGreatDoorMZ1
import Derived.Test.YtlndogibbgibgaaGreatDoorM4
namespace Go.Proofs.YtlndogibbgibgaaGreatDoor
open Go Go.Cl
theorem auditHeld_clean (h : Heap) (args : List CV) (ha : ArgL h [.int .u8, .int .u8] args) : ∃ n h', evCall S.pg prA n 479 args h = some (.bool true, h') := by
 obtain ⟨v1, v2, rfl, a1, a2⟩ := argL2 ha
 obtain ⟨n1, rfl, p1, p2⟩ := arg_int a1
 obtain ⟨n2, rfl, p3, p4⟩ := arg_int a2
 obtain ⟨n, r, h', k1, rfl⟩ := auditHeld_law laA rfl rfl ⟨p1, p2⟩ ⟨p3, p4⟩ (h := h)
 exact ⟨n, h', k1⟩
set_option maxRecDepth 100000 in
theorem auditHeld_lifted (os : Os) (started : os.Started) (H : Type) (enc : TypeId × Value → H) :
  ReturnsInHanded {} Tryz.checked os 4 .any (fun w args => (Rows.auditHeldSpec.pre enc Tryz.prog Tryz.f4 Rows.auditHeldRow.domain false w args ∧ laidMetH Tryz.prog Rows.auditHeldRow.laid w) ∧ sizedMet enc Tryz.prog Tryz.f4 (OpenSpec.ofChange Rows.auditHeldSpec) false w args)
   (Rows.auditHeldSpec.post enc Tryz.prog Tryz.f4 false true false false) :=
 law_lifted_laid (C := Tryz.checked) (tys := [.int .u8, .int .u8]) (g := 479) (Pg := S.pg) (pr := prA) (G := gam) (tb := 4) (X := fun w _ => laidMetH Tryz.prog Rows.auditHeldRow.laid w) (fun _ _ _ hh h => h.of_heap hh) own started (by kernel_rfl) Tryz.func4
  (ChangeSpec.witness_shaped (enc := enc) (C := Tryz.checked) (os := os) (X := fun w _ => laidMetH Tryz.prog Rows.auditHeldRow.laid w) false (World.laidAll Tryz.prog os Rows.auditHeldRow.laid) #[.int .u8 0, .int .u8 0] 8 (World.laidAll_os _ _ _)
   (World.shaped_of_ZipB (by kernel_rfl) (by kernel_rfl)) (by kernel_rfl) (by kernel_rfl) (by kernel_rfl)
   (by rw [MakeChecks.laidMetH_plain _ _ _ (by kernel_rfl)]; exact laidMet_laidAll _ (by kernel_rfl) (by kernel_rfl)))
  rfl (fun ds hd => by match ds, hd with | [_, _], _ => rfl) (by kernel_rfl) (by kernel_rfl) laidOut (by kernel_rfl) (by kernel_rfl) mixed good linked primsA (by kernel_rfl)
  (fun W _ hx hs => noPins W) auditHeld_clean
theorem auditHeld_row : Rows.AuditHeldSaid :=
 OpenClaim.holds_of_wide 4 Tryz.f4 rfl rfl rfl rfl rfl rfl rfl ⟨rfl, rfl, rfl, rfl, rfl⟩ rfl rfl rfl rfl rfl (by kernel_rfl) Tryz.func4 (by kernel_rfl)
  (of_decide_eq_true (by kernel_rfl)) (by unfold Func.isWrapper; first | (rw [if_pos (by decide +kernel)]; kernel_rfl) | (rw [if_neg (by decide +kernel)]; exact ⟨rfl, rfl⟩))
  (fun os started H enc _ => auditHeld_lifted os started H enc)
theorem auditHeld_holds : Rows.AuditHeldCardSaid :=
 Claim7.holds_tied_plain_at .later [] [.data, .pinned] true (true, "d65eb4071005d679f38663069ea6d36d127d6aa1aabc238577fc362c9ecbcdca") false auditHeld_row (fun _ h => by cases h) (by kernel_rfl) (fun _ h => by cases h) auditHeld_row_tie rfl ⟨rfl, rfl⟩ (by kernel_rfl) rfl
  (fun f fn hf hfn => by
   obtain rfl : f = 4 := Option.some.inj ((show Tryz.prog.funcNamed "watchbill/watchbilllaw25.AuditHeld" = some 4 by kernel_rfl).symm.trans hf) |>.symm
   obtain rfl : fn = Tryz.f4 := (Option.some.inj (Tryz.func4.symm.trans hfn)).symm
   exact ⟨by kernel_rfl, fun j t ht => by
    have hall : (Tryz.f4.params.toList.all fun u => !Tryz.prog.wantsStandIn u) = true := by kernel_rfl
    have hm : t ∈ Tryz.f4.params.toList := by simpa using Array.mem_of_getElem? ht
    exact (show Tryz.prog.wantsStandIn t = false by simpa using List.all_eq_true.1 hall t hm)⟩)
  (by kernel_rfl)
end Go.Proofs.YtlndogibbgibgaaGreatDoor
