/-
  Texts laid together: RBE1.
-/
import Derived.Test.YtdoddbmnmpgpmaaGreatDoorRows
import Derived.Test.YtdoddbmnmpgpmaaGreatDoorCards
import Derived.Test.YtdoddbmnmpgpmaaGreatDoorTie
import Derived.Test.YtdoddbmnmpgpmaaGreatDoorLink
import Derived.Test.YtdoddbmnmpgpmaaGreatDoorM7
import Derived.Test.YtdoddbmnmpgpmaaGreatDoorMA
import Derived.Test.YtdoddbmnmpgpmaaGreatDoorAEnF
import Derived.Test.YtdoddbmnmpgpmaaGreatDoorM3
import Derived.Lay
import Derived.LaidMore
import Derived.MakeChecks
import Derived.SevenTiedAt

namespace Go.Proofs.YtdoddbmnmpgpmaaGreatDoor
open Go Go.Cl

theorem own : ownKnob Tryz.prog.godebug = none := by kernel_rfl
theorem laidOut : laidOutB Tryz.prog = true := by kernel_rfl

theorem pins_of {l : List (String × DataW Unit)} (hl : (l.all fun x => x.2.handleName?.isNone) = true)
    (h0 : (l.filter fun x => x.1 == "internal/strconv.uint64pow10") = [("internal/strconv.uint64pow10", Lib.tabData .u64 Lib.pow10Tab)])
    {W : World} (h : laidMetH Tryz.prog l W) : ∃ m, Inv gam m gam.K W := by
  rw [MakeChecks.laidMetH_plain _ _ _ hl] at h
  refine Inv.pins fun k o hk => ?_
  match k, hk with
  | 0, hk =>
    obtain rfl := Option.some.inj ((show gam.K[0]? = some _ from rfl).symm.trans hk)
    refine ⟨_, _, rfl, ?_⟩
    have hv := tab_of (g := 0) h h0 (by kernel_rfl) (by kernel_rfl) Tryz.underlying300 (by kernel_rfl) (by kernel_rfl) (by kernel_rfl)
    obtain ⟨e, fr, hh⟩ := heap_of_var (by kernel_rfl) hv
    exact ⟨_, e, fr, hh, rfl⟩
  | k + 1, hk =>
    have : gam.K[k + 1]? = none := List.getElem?_eq_none (show 1 ≤ k + 1 by omega)
    rw [this] at hk; cases hk

theorem known439 : go (loadK gam.K .nil fun t => callF S.pg (addRingF libF) 3000 100 439 [] t fyes) = true := by kernel_rfl

theorem primsE : PrimOK Tryz.prog gam prE :=
  addKnown_ok mixed good linked (ring_ok lib_ok) fun f hf => by
    simp at hf
    subst hf
    obtain ⟨n, h', h1⟩ := fast_known (PrimSnd.ring lib_fs) known439
    exact ⟨n, by rw [h1]; rfl⟩

end Go.Proofs.YtdoddbmnmpgpmaaGreatDoor
