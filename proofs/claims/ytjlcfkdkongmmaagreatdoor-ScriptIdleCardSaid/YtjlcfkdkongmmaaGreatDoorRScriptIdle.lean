/-
  'ScriptIdle' returns true however many ticks, whoever asks; the card ties what the listed variables hold to the program's text.
-/
import Derived.Test.YtjlcfkdkongmmaaGreatDoorMS
import Derived.Test.YtjlcfkdkongmmaaGreatDoorML
import Derived.Test.YtjlcfkdkongmmaaGreatDoorM4
namespace Go.Proofs.YtjlcfkdkongmmaaGreatDoor
open Go Go.Cl
theorem scriptIdle_clean (h : Heap) (args : List CV) (ha : ArgL h [.int .u8, .int .u8] args) : ∃ n h', evCall S.pg (addKnown [457] lib) n 474 args h = some (.bool true, h') := by
 obtain ⟨v, w, rfl, a1, a2⟩ := argL2 ha
 obtain ⟨x0, rfl, l0, u0⟩ := arg_int a1
 obtain ⟨x1, rfl, l1, u1⟩ := arg_int a2
 obtain ⟨m, r, h', k1, rfl⟩ := idle_law (p := ⟨S.pg, addKnown [457] lib⟩) (LP.of [457] (by decide)) (l := [457]) (pr := lib) rfl rfl (h := h) l0 u0 l1 u1
 exact ⟨m, h', k1⟩
set_option maxRecDepth 100000 in
theorem scriptIdle_lifted (os : Os) (started : os.Started) (H : Type) (enc : TypeId × Value → H) :
  ReturnsInHanded {} Tryz.checked os 5 .any (fun w args => (Rows.scriptIdleSpec.pre enc Tryz.prog Tryz.f5 Rows.scriptIdleRow.domain false w args ∧ laidMetH Tryz.prog Rows.scriptIdleRow.laid w) ∧ sizedMet enc Tryz.prog Tryz.f5 (OpenSpec.ofChange Rows.scriptIdleSpec) false w args)
   (Rows.scriptIdleSpec.post enc Tryz.prog Tryz.f5 false true false false) :=
 law_lifted_laid (C := Tryz.checked) (tys := [.int .u8, .int .u8]) (g := 474) (Pg := S.pg) (pr := (addKnown [457] lib)) (G := gam) (tb := 4) (X := fun w _ => laidMetH Tryz.prog Rows.scriptIdleRow.laid w) (fun _ _ _ hh h => h.of_heap hh) own started (by kernel_rfl) Tryz.func5
  (ChangeSpec.witness_shaped (enc := enc) (C := Tryz.checked) (os := os) (X := fun w _ => laidMetH Tryz.prog Rows.scriptIdleRow.laid w) false (World.laidAll Tryz.prog os Rows.scriptIdleRow.laid) #[.int .u8 0, .int .u8 0] 8 (World.laidAll_os _ _ _)
   (World.shaped_of_ZipB (by kernel_rfl) (by kernel_rfl)) (by kernel_rfl) (by kernel_rfl) (by kernel_rfl)
   (by rw [MakeChecks.laidMetH_plain _ _ _ (by kernel_rfl)]; exact laidMet_laidAll _ (by kernel_rfl) (by kernel_rfl)))
  rfl (fun ds hd => by match ds, hd with | [_, _], _ => rfl) (by kernel_rfl) (by kernel_rfl) laidOut (by kernel_rfl) (by kernel_rfl) mixed good linked primsS2 (by kernel_rfl)
  (fun W _ hx hs => pins_of (by kernel_rfl) (by kernel_rfl) (by kernel_rfl) (by kernel_rfl) hx hs) scriptIdle_clean
theorem scriptIdle_row : Rows.ScriptIdleSaid :=
 OpenClaim.holds_of_wide 5 Tryz.f5 rfl rfl rfl rfl rfl rfl rfl ⟨rfl, rfl, rfl, rfl, rfl⟩ rfl rfl rfl rfl rfl (by kernel_rfl) Tryz.func5 (by kernel_rfl)
  (of_decide_eq_true (by kernel_rfl)) (by unfold Func.isWrapper; first | (rw [if_pos (by decide +kernel)]; kernel_rfl) | (rw [if_neg (by decide +kernel)]; exact ⟨rfl, rfl⟩))
  (fun os started H enc _ => scriptIdle_lifted os started H enc)
theorem scriptIdle_holds : Rows.ScriptIdleCardSaid :=
 Claim7.holds_tied_plain_at .later [] [.data, .data, .data, .data, .sentinel, .sentinel, .pinned] true (true, "2308b3895415da048ead196a74e9206b887238f651acc510ef482819e9c398f2") true scriptIdle_row (fun _ h => by cases h) (by kernel_rfl) (fun _ h => by cases h) scriptIdle_row_tie rfl ⟨rfl, rfl⟩ (by kernel_rfl) rfl
  (fun f fn hf hfn => by
   obtain rfl : f = 5 := Option.some.inj ((show Tryz.prog.funcNamed "watchbill/watchbilllaw24.ScriptIdle" = some 5 by kernel_rfl).symm.trans hf) |>.symm
   obtain rfl : fn = Tryz.f5 := (Option.some.inj (Tryz.func5.symm.trans hfn)).symm
   exact ⟨by kernel_rfl, fun j t ht => by
    have hall : (Tryz.f5.params.toList.all fun u => !Tryz.prog.wantsStandIn u) = true := by kernel_rfl
    have hm : t ∈ Tryz.f5.params.toList := by simpa using Array.mem_of_getElem? ht
    exact (show Tryz.prog.wantsStandIn t = false by simpa using List.all_eq_true.1 hall t hm)⟩)
  (by kernel_rfl)
end Go.Proofs.YtjlcfkdkongmmaaGreatDoor
