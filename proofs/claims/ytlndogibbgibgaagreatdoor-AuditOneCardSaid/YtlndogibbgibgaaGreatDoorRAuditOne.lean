/-
  'AuditOne' returns true whatever the lengths; the card ties what the listed variables hold to the program's text.
-/
import Derived.Test.YtlndogibbgibgaaGreatDoorMM1
import Derived.Test.YtlndogibbgibgaaGreatDoorMZ4
import Derived.Test.YtlndogibbgibgaaGreatDoorM4
namespace Go.Proofs.YtlndogibbgibgaaGreatDoor
open Go Go.Cl
theorem auditOne_clean (h : Heap) (args : List CV) (ha : ArgL h [.int .u8, .int .u8, .int .u8, .int .u8] args) : ∃ n h', evCall S.pg prA n 475 args h = some (.bool true, h') := by
 obtain ⟨v1, v2, v3, v4, rfl, a1, a2, a3, a4⟩ := argL4 ha
 obtain ⟨n1, rfl, p1, q1⟩ := arg_int a1
 obtain ⟨n2, rfl, p2, q2⟩ := arg_int a2
 obtain ⟨n3, rfl, p3, q3⟩ := arg_int a3
 obtain ⟨n4, rfl, p4, q4⟩ := arg_int a4
 obtain ⟨n, r, h', k1, rfl⟩ := auditOne_law laA rfl rfl ⟨p1, q1⟩ ⟨p2, q2⟩ ⟨p3, q3⟩ ⟨p4, q4⟩ (h := h)
 exact ⟨n, h', k1⟩
set_option maxRecDepth 100000 in
theorem auditOne_lifted (os : Os) (started : os.Started) (H : Type) (enc : TypeId × Value → H) :
  ReturnsInHanded {} Tryz.checked os 3 .any (fun w args => (Rows.auditOneSpec.pre enc Tryz.prog Tryz.f3 Rows.auditOneRow.domain false w args ∧ laidMetH Tryz.prog Rows.auditOneRow.laid w) ∧ sizedMet enc Tryz.prog Tryz.f3 (OpenSpec.ofChange Rows.auditOneSpec) false w args)
   (Rows.auditOneSpec.post enc Tryz.prog Tryz.f3 false true false false) :=
 law_lifted_laid (C := Tryz.checked) (tys := [.int .u8, .int .u8, .int .u8, .int .u8]) (g := 475) (Pg := S.pg) (pr := prA) (G := gam) (tb := 4) (X := fun w _ => laidMetH Tryz.prog Rows.auditOneRow.laid w) (fun _ _ _ hh h => h.of_heap hh) own started (by kernel_rfl) Tryz.func3
  (ChangeSpec.witness_shaped (enc := enc) (C := Tryz.checked) (os := os) (X := fun w _ => laidMetH Tryz.prog Rows.auditOneRow.laid w) false (World.laidAll Tryz.prog os Rows.auditOneRow.laid) #[.int .u8 0, .int .u8 0, .int .u8 0, .int .u8 0] 8 (World.laidAll_os _ _ _)
   (World.shaped_of_ZipB (by kernel_rfl) (by kernel_rfl)) (by kernel_rfl) (by kernel_rfl) (by kernel_rfl)
   (by rw [MakeChecks.laidMetH_plain _ _ _ (by kernel_rfl)]; exact laidMet_laidAll _ (by kernel_rfl) (by kernel_rfl)))
  rfl (fun ds hd => by match ds, hd with | [_, _, _, _], _ => rfl) (by kernel_rfl) (by kernel_rfl) laidOut (by kernel_rfl) (by kernel_rfl) mixed good linked primsA (by kernel_rfl)
  (fun W _ hx hs => noPins W) auditOne_clean
theorem auditOne_row : Rows.AuditOneSaid :=
 OpenClaim.holds_of_wide 3 Tryz.f3 rfl rfl rfl rfl rfl rfl rfl ⟨rfl, rfl, rfl, rfl, rfl⟩ rfl rfl rfl rfl rfl (by kernel_rfl) Tryz.func3 (by kernel_rfl)
  (of_decide_eq_true (by kernel_rfl)) (by unfold Func.isWrapper; first | (rw [if_pos (by decide +kernel)]; kernel_rfl) | (rw [if_neg (by decide +kernel)]; exact ⟨rfl, rfl⟩))
  (fun os started H enc _ => auditOne_lifted os started H enc)
theorem auditOne_holds : Rows.AuditOneCardSaid :=
 Claim7.holds_tied_plain_at .later [] [.data, .pinned] true (true, "d65eb4071005d679f38663069ea6d36d127d6aa1aabc238577fc362c9ecbcdca") false auditOne_row (fun _ h => by cases h) (by kernel_rfl) (fun _ h => by cases h) auditOne_row_tie rfl ⟨rfl, rfl⟩ (by kernel_rfl) rfl
  (fun f fn hf hfn => by
   obtain rfl : f = 3 := Option.some.inj ((show Tryz.prog.funcNamed "watchbill/watchbilllaw25.AuditOne" = some 3 by kernel_rfl).symm.trans hf) |>.symm
   obtain rfl : fn = Tryz.f3 := (Option.some.inj (Tryz.func3.symm.trans hfn)).symm
   exact ⟨by kernel_rfl, fun j t ht => by
    have hall : (Tryz.f3.params.toList.all fun u => !Tryz.prog.wantsStandIn u) = true := by kernel_rfl
    have hm : t ∈ Tryz.f3.params.toList := by simpa using Array.mem_of_getElem? ht
    exact (show Tryz.prog.wantsStandIn t = false by simpa using List.all_eq_true.1 hall t hm)⟩)
  (by kernel_rfl)
end Go.Proofs.YtlndogibbgibgaaGreatDoor
