/-
  Texts laid together: RBL.
-/
import Derived.Test.YtdoddbmnmpgpmaaGreatDoorRows
import Derived.Test.YtdoddbmnmpgpmaaGreatDoorCards
import Derived.Test.YtdoddbmnmpgpmaaGreatDoorTie
import Derived.Test.YtdoddbmnmpgpmaaGreatDoorLink
import Derived.Test.YtdoddbmnmpgpmaaGreatDoorMA
import Derived.Test.YtdoddbmnmpgpmaaGreatDoorS
import Derived.Test.YtdoddbmnmpgpmaaGreatDoorM3
import Derived.Lay
import Derived.LaidMore
import Derived.LaidLaws
import Derived.LaidSub
import Derived.LaidHandle
import Derived.MakeChecks
import Derived.SevenTiedAt

namespace Go.Proofs.YtdoddbmnmpgpmaaGreatDoor
open Go Go.Cl

theorem own : ownKnob Tryz.prog.godebug = none := by kernel_rfl
theorem laidOut : laidOutB Tryz.prog = true := by kernel_rfl

theorem known429 : go (callF S.pg (addRingF noF) 3000 100 429 [] .nil fyes) = true := by kernel_rfl

def prL : Prims := addKnown [429] (addRing noPr)
theorem primsL : PrimOK Tryz.prog gam prL :=
  addKnown_ok mixed good linked (ring_ok noPr_ok) fun f hf => by
    simp at hf
    subst hf
    obtain ⟨n, h', h1⟩ := fast_yes (PrimSnd.ring noF_snd) Rep.nil known429
    exact ⟨n, by rw [show gam.K = [] from rfl, h1]; rfl⟩

theorem noPins (W : World) : ∃ m, Inv gam m gam.K W := ⟨fun _ => none, Inv.empty gam rfl W⟩

end Go.Proofs.YtdoddbmnmpgpmaaGreatDoor
