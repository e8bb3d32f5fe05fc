/-
  Texts laid together: RBF.
-/
import Derived.Test.YtfeppjclogdoeaaGreatDoorRows
import Derived.Test.YtfeppjclogdoeaaGreatDoorCards
import Derived.Test.YtfeppjclogdoeaaGreatDoorTie
import Derived.Test.YtfeppjclogdoeaaGreatDoorLink
import Derived.Test.YtfeppjclogdoeaaGreatDoorMA
import Derived.Test.YtfeppjclogdoeaaGreatDoorMB
import Derived.Test.YtfeppjclogdoeaaGreatDoorM3
import Derived.Lay
import Derived.LaidMore
import Derived.LaidLaws
import Derived.LaidSub
import Derived.LaidHandle
import Derived.MakeChecks
import Derived.SevenTiedAt

namespace Go.Proofs.YtfeppjclogdoeaaGreatDoor
open Go Go.Cl

theorem own : ownKnob Tryz.prog.godebug = none := by kernel_rfl
theorem laidOut : laidOutB Tryz.prog = true := by kernel_rfl

theorem known303 : go (callF S.pg (addRingF noF) 3000 100 303 [] .nil fyes) = true := by kernel_rfl

theorem primsC : PrimOK Tryz.prog gam prC :=
  addKnown_ok mixed good linked (ring_ok noPr_ok) fun f hf => by
    simp at hf
    subst hf
    obtain ⟨n, h', h1⟩ := fast_yes (PrimSnd.ring noF_snd) Rep.nil known303
    exact ⟨n, by rw [show gam.K = [] from rfl, h1]; rfl⟩

theorem noPins (W : World) : ∃ m, Inv gam m gam.K W := ⟨fun _ => none, Inv.empty gam rfl W⟩

end Go.Proofs.YtfeppjclogdoeaaGreatDoor
