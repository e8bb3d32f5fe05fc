/-
  'OpCases' returns true however many cases, whichever is twice, whatever wait; the card ties what the listed variables hold to the program's text.
-/
import Derived.Test.YtkgaiedbbhadnaaDoorMA
import Derived.Test.YtkgaiedbbhadnaaDoorM8
namespace Go.Proofs.YtkgaiedbbhadnaaDoor
open Go Go.Cl

theorem opCases_clean (h : Heap) (args : List CV) (ha : ArgL h [.int .u8, .int .u8, .int .i16] args) : ∃ n h', evCall S.pg (addKnown [218] lib) n 220 args h = some (.bool true, h') := by
  obtain ⟨v, w, u, rfl, ha1, ha2, ha3⟩ := argL3 ha
  obtain ⟨a, rfl, a0, _⟩ := arg_int ha1
  obtain ⟨t, rfl, t0, t1⟩ := arg_int ha2
  obtain ⟨n, rfl, n0, n1⟩ := arg_int ha3
  obtain ⟨k, r, h', k1, rfl⟩ := opCases_law (p := ⟨S.pg, addKnown [218] lib⟩) (LP.of [218] (by decide)) rfl (h := h) (show (0 : Int) ≤ a from a0) (show (0 : Int) ≤ t from t0) (show t ≤ 255 from t1) (show -32768 ≤ n from n0) (show n ≤ 32767 from n1)
  exact ⟨k, h', k1⟩

set_option maxRecDepth 100000 in
theorem opCases_lifted (os : Os) (started : os.Started) (H : Type) (enc : TypeId × Value → H) :
    ReturnsInHanded {} Tryd.checked os 4 .any (fun w args => (Rows.opCasesSpec.pre enc Tryd.prog Tryd.f4 Rows.opCasesRow.domain false w args ∧ laidMetH Tryd.prog Rows.opCasesRow.laid w) ∧ sizedMet enc Tryd.prog Tryd.f4 (OpenSpec.ofChange Rows.opCasesSpec) false w args)
      (Rows.opCasesSpec.post enc Tryd.prog Tryd.f4 false true false false) :=
  law_lifted_laid (C := Tryd.checked) (tys := [.int .u8, .int .u8, .int .i16]) (g := 220) (Pg := S.pg) (pr := (addKnown [218] lib)) (G := gam) (tb := 4) (X := fun w _ => laidMetH Tryd.prog Rows.opCasesRow.laid w) (fun _ _ _ hh h => h.of_heap hh) own started (by kernel_rfl) Tryd.func4
    (ChangeSpec.witness_shaped (enc := enc) (C := Tryd.checked) (os := os) (X := fun w _ => laidMetH Tryd.prog Rows.opCasesRow.laid w) false (World.laidAll Tryd.prog os Rows.opCasesRow.laid) #[.int .u8 0, .int .u8 0, .int .i16 0] 8 (World.laidAll_os _ _ _)
      (World.shaped_of_ZipB (by kernel_rfl) (by kernel_rfl)) (by kernel_rfl) (by kernel_rfl) (by kernel_rfl)
      (by rw [MakeChecks.laidMetH_plain _ _ _ (by kernel_rfl)]; exact laidMet_laidAll _ (by kernel_rfl) (by kernel_rfl)))
    rfl (fun ds hd => by match ds, hd with | [_, _, _], _ => rfl) (by kernel_rfl) (by kernel_rfl) laidOut (by kernel_rfl) (by kernel_rfl) mixed good linked primsOp (by kernel_rfl)
    (fun W _ hx hs => pins_of (by kernel_rfl) (by kernel_rfl) (by kernel_rfl) (by kernel_rfl) hx hs) opCases_clean

theorem opCases_row : Rows.OpCasesSaid :=
  OpenClaim.holds_of_wide 4 Tryd.f4 rfl rfl rfl rfl rfl rfl rfl ⟨rfl, rfl, rfl, rfl, rfl⟩ rfl rfl rfl rfl rfl (by kernel_rfl) Tryd.func4 (by kernel_rfl)
    (of_decide_eq_true (by kernel_rfl)) (by unfold Func.isWrapper; first | (rw [if_pos (by decide +kernel)]; kernel_rfl) | (rw [if_neg (by decide +kernel)]; exact ⟨rfl, rfl⟩))
    (fun os started H enc _ => opCases_lifted os started H enc)

theorem opCases_holds : Rows.OpCasesCardSaid :=
  Claim7.holds_tied_plain_at .later [] [.data, .data, .data, .data, .sentinel, .sentinel, .pinned] true (true, "87783a612ace11ac0174db2e051935afdafa431163d0603fd99104f1aa8acab0") true opCases_row (fun _ h => by cases h) (by kernel_rfl) (fun _ h => by cases h) opCases_row_tie rfl ⟨rfl, rfl⟩ (by kernel_rfl) rfl
    (fun f fn hf hfn => by
      obtain rfl : f = 4 := Option.some.inj ((show Tryd.prog.funcNamed "watchbill/watchbilllaw5.OpCases" = some 4 by kernel_rfl).symm.trans hf) |>.symm
      obtain rfl : fn = Tryd.f4 := (Option.some.inj (Tryd.func4.symm.trans hfn)).symm
      exact ⟨by kernel_rfl, fun j t ht => by
        have hall : (Tryd.f4.params.toList.all fun u => !Tryd.prog.wantsStandIn u) = true := by kernel_rfl
        have hm : t ∈ Tryd.f4.params.toList := by simpa using Array.mem_of_getElem? ht
        exact (show Tryd.prog.wantsStandIn t = false by simpa using List.all_eq_true.1 hall t hm)⟩)
    (by kernel_rfl)

end Go.Proofs.YtkgaiedbbhadnaaDoor
