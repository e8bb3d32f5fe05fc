/-
  'OpApart' returns true whatever the two ops; its arguments read as they did; the card ties what the listed variables hold to the program's text.
-/
import Derived.Test.YtkgaiedbbhadnaaGreatDoorMA
import Derived.Test.YtkgaiedbbhadnaaGreatDoorM9
namespace Go.Proofs.YtkgaiedbbhadnaaGreatDoor
open Go Go.Cl

theorem opApart_clean (h : Heap) (args : List CV) (ha : ArgL h [opTy, opTy] args) : ∃ n h', evCall S.pg (addKnown [218] lib) n 245 args h = some (.bool true, h') := by
  obtain ⟨v, w, rfl, ha1, ha2⟩ := argL2 ha
  obtain ⟨c, x, rfl, rx, hx⟩ := arg_st tellsOp rfl ha1
  obtain ⟨d, y, rfl, ry, hy⟩ := arg_st tellsOp rfl ha2
  obtain ⟨n, r, h', k1, rfl⟩ := opApart_law (p := ⟨S.pg, addKnown [218] lib⟩) (LP.of [218] (by decide)) rfl rx ry hx hy
  exact ⟨n, h', k1⟩

set_option maxRecDepth 100000 in
theorem opApart_lifted (os : Os) (started : os.Started) (H : Type) (enc : TypeId × Value → H) :
    ReturnsInHanded {} Tryz.checked os 5 .any (fun w args => (Rows.opApartSpec.pre enc Tryz.prog Tryz.f5 Rows.opApartRow.domain false w args ∧ laidMetH Tryz.prog Rows.opApartRow.laid w) ∧ sizedMet enc Tryz.prog Tryz.f5 (OpenSpec.ofChange Rows.opApartSpec) false w args)
      (Rows.opApartSpec.post enc Tryz.prog Tryz.f5 false true false false) :=
  law_lifted_laid (C := Tryz.checked) (tys := [opTy, opTy]) (g := 245) (Pg := S.pg) (pr := (addKnown [218] lib)) (G := gam) (tb := 4) (X := fun w _ => laidMetH Tryz.prog Rows.opApartRow.laid w) (fun _ _ _ hh h => h.of_heap hh) own started (by kernel_rfl) Tryz.func5
    (ChangeSpec.witness_shaped (enc := enc) (C := Tryz.checked) (os := os) (X := fun w _ => laidMetH Tryz.prog Rows.opApartRow.laid w) false (World.laidAll Tryz.prog os Rows.opApartRow.laid) #[.agg #[.int .i64 0, .int .i64 0, .int .i64 0, .int .i64 0, .slice none 0 0], .agg #[.int .i64 0, .int .i64 0, .int .i64 0, .int .i64 0, .slice none 0 0]] 8 (World.laidAll_os _ _ _)
      (World.shaped_of_ZipB (by kernel_rfl) (by kernel_rfl)) (by kernel_rfl) (by kernel_rfl) (by kernel_rfl)
      (by rw [MakeChecks.laidMetH_plain _ _ _ (by kernel_rfl)]; exact laidMet_laidAll _ (by kernel_rfl) (by kernel_rfl)))
    rfl (fun ds hd => by match ds, hd with | [_, _], _ => rfl) (by kernel_rfl) (by kernel_rfl) laidOut (by kernel_rfl) (by kernel_rfl) mixed good linked primsOp (by kernel_rfl)
    (fun W _ hx hs => pins_of (by kernel_rfl) (by kernel_rfl) (by kernel_rfl) (by kernel_rfl) hx hs) opApart_clean

theorem opApart_row : Rows.OpApartSaid :=
  OpenClaim.holds_of_wide 5 Tryz.f5 rfl rfl rfl rfl rfl rfl rfl ⟨rfl, rfl, rfl, rfl, rfl⟩ rfl rfl rfl rfl rfl (by kernel_rfl) Tryz.func5 (by kernel_rfl)
    (of_decide_eq_true (by kernel_rfl)) (by unfold Func.isWrapper; first | (rw [if_pos (by decide +kernel)]; kernel_rfl) | (rw [if_neg (by decide +kernel)]; exact ⟨rfl, rfl⟩))
    (fun os started H enc _ => opApart_lifted os started H enc)

theorem opApart_holds : Rows.OpApartCardSaid :=
  Claim7.holds_tied_plain_at .later [] [.data, .data, .data, .data, .sentinel, .sentinel, .pinned] true (true, "a420357fbe3202d2810d38468d333408b237e54920d81a3dec41858be8edacb6") true opApart_row (fun _ h => by cases h) (by kernel_rfl) (fun _ h => by cases h) opApart_row_tie rfl ⟨rfl, rfl⟩ (by kernel_rfl) rfl
    (fun f fn hf hfn => by
      obtain rfl : f = 5 := Option.some.inj ((show Tryz.prog.funcNamed "watchbill/watchbilllaw5.OpApart" = some 5 by kernel_rfl).symm.trans hf) |>.symm
      obtain rfl : fn = Tryz.f5 := (Option.some.inj (Tryz.func5.symm.trans hfn)).symm
      exact ⟨by kernel_rfl, fun j t ht => by
        have hall : (Tryz.f5.params.toList.all fun u => !Tryz.prog.wantsStandIn u) = true := by kernel_rfl
        have hm : t ∈ Tryz.f5.params.toList := by simpa using Array.mem_of_getElem? ht
        exact (show Tryz.prog.wantsStandIn t = false by simpa using List.all_eq_true.1 hall t hm)⟩)
    (by kernel_rfl)

end Go.Proofs.YtkgaiedbbhadnaaGreatDoor
