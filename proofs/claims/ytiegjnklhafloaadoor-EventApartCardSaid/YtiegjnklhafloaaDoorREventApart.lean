/-
  'EventApart' returns true whatever the two events; its arguments read as they did; the card ties what the listed variables hold to the program's text.
-/
import Derived.Test.YtiegjnklhafloaaDoorM9
import Derived.Test.YtiegjnklhafloaaDoorM8
namespace Go.Proofs.YtiegjnklhafloaaDoor
open Go Go.Cl

theorem eventApart_clean (h : Heap) (args : List CV) (ha : ArgL h [evTy, evTy] args) : ∃ n h', evCall S.pg (addKnown [107] lib) n 119 args h = some (.bool true, h') := by
  obtain ⟨v, w, rfl, ha1, ha2⟩ := argL2 ha
  obtain ⟨c, x, rfl, rx, hx⟩ := arg_st tellsEv rfl ha1
  obtain ⟨d, y, rfl, ry, hy⟩ := arg_st tellsEv rfl ha2
  have rx : c = evL x := rx
  have ry : d = evL y := ry
  subst rx ry
  obtain ⟨n, r, h', k1, rfl⟩ := eventApart_law (p := ⟨S.pg, addKnown [107] lib⟩) (LP.of [107] (by decide)) rfl (h := h) hx hy
  exact ⟨n, h', k1⟩

set_option maxRecDepth 100000 in
theorem eventApart_lifted (os : Os) (started : os.Started) (H : Type) (enc : TypeId × Value → H) :
    ReturnsInHanded {} Tryd.checked os 12 .any (fun w args => (Rows.eventApartSpec.pre enc Tryd.prog Tryd.f12 Rows.eventApartRow.domain false w args ∧ laidMetH Tryd.prog Rows.eventApartRow.laid w) ∧ sizedMet enc Tryd.prog Tryd.f12 (OpenSpec.ofChange Rows.eventApartSpec) false w args)
      (Rows.eventApartSpec.post enc Tryd.prog Tryd.f12 false true false false) :=
  law_lifted_laid (C := Tryd.checked) (tys := [evTy, evTy]) (g := 119) (Pg := S.pg) (pr := (addKnown [107] lib)) (G := gam) (tb := 4) (X := fun w _ => laidMetH Tryd.prog Rows.eventApartRow.laid w) (fun _ _ _ hh h => h.of_heap hh) own started (by kernel_rfl) Tryd.func12
    (ChangeSpec.witness_shaped (enc := enc) (C := Tryd.checked) (os := os) (X := fun w _ => laidMetH Tryd.prog Rows.eventApartRow.laid w) false (World.laidAll Tryd.prog os Rows.eventApartRow.laid) #[.agg #[.int .i64 0, .int .i64 0, .int .i64 0, .int .i64 0, .int .i64 0, .int .i64 0, .int .i64 0], .agg #[.int .i64 0, .int .i64 0, .int .i64 0, .int .i64 0, .int .i64 0, .int .i64 0, .int .i64 0]] 8 (World.laidAll_os _ _ _)
      (World.shaped_of_ZipB (by kernel_rfl) (by kernel_rfl)) (by kernel_rfl) (by kernel_rfl) (by kernel_rfl)
      (by rw [MakeChecks.laidMetH_plain _ _ _ (by kernel_rfl)]; exact laidMet_laidAll _ (by kernel_rfl) (by kernel_rfl)))
    rfl (fun ds hd => by match ds, hd with | [_, _], _ => rfl) (by kernel_rfl) (by kernel_rfl) laidOut (by kernel_rfl) (by kernel_rfl) mixed good linked primsEvent (by kernel_rfl)
    (fun W _ hx hs => pins_of (by kernel_rfl) (by kernel_rfl) (by kernel_rfl) (by kernel_rfl) hx hs) eventApart_clean

theorem eventApart_row : Rows.EventApartSaid :=
  OpenClaim.holds_of_wide 12 Tryd.f12 rfl rfl rfl rfl rfl rfl rfl ⟨rfl, rfl, rfl, rfl, rfl⟩ rfl rfl rfl rfl rfl (by kernel_rfl) Tryd.func12 (by kernel_rfl)
    (of_decide_eq_true (by kernel_rfl)) (by unfold Func.isWrapper; first | (rw [if_pos (by decide +kernel)]; kernel_rfl) | (rw [if_neg (by decide +kernel)]; exact ⟨rfl, rfl⟩))
    (fun os started H enc _ => eventApart_lifted os started H enc)

theorem eventApart_holds : Rows.EventApartCardSaid :=
  Claim7.holds_tied_plain_at .later [] [.data, .data, .data, .data, .sentinel, .sentinel, .pinned] true (true, "7c6f7b902114c129c6eee9bbefadd336c69aa9aefb85892e9304d0c0e18d7f94") true eventApart_row (fun _ h => by cases h) (by kernel_rfl) (fun _ h => by cases h) eventApart_row_tie rfl ⟨rfl, rfl⟩ (by kernel_rfl) rfl
    (fun f fn hf hfn => by
      obtain rfl : f = 12 := Option.some.inj ((show Tryd.prog.funcNamed "watchbill/watchbilllaw21.EventApart" = some 12 by kernel_rfl).symm.trans hf) |>.symm
      obtain rfl : fn = Tryd.f12 := (Option.some.inj (Tryd.func12.symm.trans hfn)).symm
      exact ⟨by kernel_rfl, fun j t ht => by
        have hall : (Tryd.f12.params.toList.all fun u => !Tryd.prog.wantsStandIn u) = true := by kernel_rfl
        have hm : t ∈ Tryd.f12.params.toList := by simpa using Array.mem_of_getElem? ht
        exact (show Tryd.prog.wantsStandIn t = false by simpa using List.all_eq_true.1 hall t hm)⟩)
    (by kernel_rfl)

end Go.Proofs.YtiegjnklhafloaaDoor
