/-
  Texts laid together: LJoin LBld ClBld LBldP LPrim.
-/
import Derived.Test.YtlndogibbgibgaaGreatDoorM3
import Derived.Test.YtlndogibbgibgaaGreatDoorM4
import Derived.Test.YtlndogibbgibgaaGreatDoorLink
import Derived.Test.YtlndogibbgibgaaGreatDoorShelf
import Derived.Shelf.Strings.OnBuilder
import Derived.Shelf.Strings.BuilderK
import Derived.Shelf.Strings.SlTrimAscii
namespace Go.Proofs.YtlndogibbgibgaaGreatDoor
open Go Go.Cl
set_option linter.unusedSimpArgs false
set_option linter.unusedVariables false
theorem p128_ok {vs : List CV} {h h' : Heap} {r : CV} (hev : p128 vs h = some (r, h')) : h.length ≤ h'.length ∧ ∀ fid, gam.F 128 = some fid → CallSim Tryz.prog gam fid vs h r h' := by
 refine ⟨?_, fun fid hf => by rw [show gam.F 128 = none from rfl] at hf; cases hf⟩
 unfold p128 at hev
 repeat' split at hev
 all_goals first | (simp only [Option.some.injEq, Prod.mk.injEq] at hev; obtain ⟨rfl, rfl⟩ := hev; simp; done) | (simp at hev; done)
end Go.Proofs.YtlndogibbgibgaaGreatDoor
namespace Go.Proofs
open Go.Shelf Go.RowKit
set_option linter.unusedVariables false
set_option linter.unusedSimpArgs false
section
variable {P : Program} {w : World} {base e : Nat}
end
variable {P : Program} {ρ : Ren}
end Go.Proofs
namespace Go.Cl
open Go
set_option linter.unusedSimpArgs false
set_option linter.unusedVariables false
section
variable {P : Program} {G : Gam}
end
end Go.Cl
namespace Go.Proofs.YtlndogibbgibgaaGreatDoor
open Go Go.Cl
set_option linter.unusedSimpArgs false
set_option linter.unusedVariables false
theorem p136_ok {vs : List CV} {h h' : Heap} {r : CV} (hev : p136 vs h = some (r, h')) : h.length ≤ h'.length ∧ ∀ fid, gam.F 136 = some fid → CallSim Tryz.prog gam fid vs h r h' := by
 refine ⟨?_, fun fid hf => by rw [show gam.F 136 = none from rfl] at hf; cases hf⟩
 unfold p136 at hev
 repeat' split at hev
 all_goals first | (simp only [Option.some.injEq, Prod.mk.injEq] at hev; obtain ⟨rfl, rfl⟩ := hev; simp; done) | (simp at hev; done)
theorem p137_ok {vs : List CV} {h h' : Heap} {r : CV} (hev : p137 vs h = some (r, h')) : h.length ≤ h'.length ∧ ∀ fid, gam.F 137 = some fid → CallSim Tryz.prog gam fid vs h r h' := by
 refine ⟨?_, fun fid hf => by rw [show gam.F 137 = none from rfl] at hf; cases hf⟩
 unfold p137 at hev
 repeat' split at hev
 all_goals first | (simp only [Option.some.injEq, Prod.mk.injEq] at hev; obtain ⟨rfl, rfl⟩ := hev; simp; done) | (simp at hev; done)
theorem size_mk (s : List UInt8) : (⟨s.toArray⟩ : ByteArray).size = s.length := by simp [ByteArray.size]
theorem p121_ok {vs : List CV} {h h' : Heap} {r : CV} (hev : p121 vs h = some (r, h')) : h.length ≤ h'.length ∧ ∀ fid, gam.F 121 = some fid → CallSim Tryz.prog gam fid vs h r h' := by
 refine ⟨?_, fun fid hf => by rw [show gam.F 121 = none from rfl] at hf; cases hf⟩
 unfold p121 at hev
 repeat' split at hev
 all_goals first | (simp only [Option.some.injEq, Prod.mk.injEq] at hev; obtain ⟨rfl, rfl⟩ := hev; simp; done) | (simp at hev; done)
theorem p123_ok {vs : List CV} {h h' : Heap} {r : CV} (hev : p123 vs h = some (r, h')) : h.length ≤ h'.length ∧ ∀ fid, gam.F 123 = some fid → CallSim Tryz.prog gam fid vs h r h' := by
 refine ⟨?_, fun fid hf => by rw [show gam.F 123 = none from rfl] at hf; cases hf⟩
 unfold p123 at hev
 repeat' split at hev
 all_goals first | (simp only [Option.some.injEq, Prod.mk.injEq] at hev; obtain ⟨rfl, rfl⟩ := hev; simp; done) | (simp at hev; done)
theorem p124_ok {vs : List CV} {h h' : Heap} {r : CV} (hev : p124 vs h = some (r, h')) : h.length ≤ h'.length ∧ ∀ fid, gam.F 124 = some fid → CallSim Tryz.prog gam fid vs h r h' := by
 unfold p124 at hev
 split at hev
 ·rename_i hh s c
  split at hev
  ·rename_i hs
   obtain ⟨hs, hc, ha⟩ := hs
   simp at hev
   obtain ⟨rfl, rfl⟩ := hev
   refine ⟨Nat.le_refl _, fun fid hf => ?_⟩
   have e := Option.some.inj (hf.symm.trans (show gam.F 124 = some _ from rfl))
   subst e
   refine calm_sim fun m w rvs si ht => ?_
   obtain ⟨_, rfl, ht1⟩ := trL_str ht
   obtain ⟨_, rfl, ht2⟩ := trL_str ht1
   obtain rfl := trL_nil ht2
   refine ⟨_, ?_, (Go.Proofs.Any.strings_Trim_laid Tryz.lays160 (by kernel_rfl) ⟨s.toArray⟩ ⟨c.toArray⟩ w (by rw [size_mk]; exact hs) (by rw [size_mk]; exact hc) ?_).mono fun e w' ⟨he, hw⟩ => ⟨he, Calm.below hw⟩⟩
   ·simp [tr]
   ·exact Go.Proofs.ascii_of_all (by simpa using ha)
  ·simp at hev
 ·simp at hev
theorem p122_ok {vs : List CV} {h h' : Heap} {r : CV} (hev : p122 vs h = some (r, h')) : h.length ≤ h'.length ∧ ∀ fid, gam.F 122 = some fid → CallSim Tryz.prog gam fid vs h r h' := by
 refine ⟨?_, fun fid hf => by rw [show gam.F 122 = none from rfl] at hf; cases hf⟩
 unfold p122 at hev
 repeat' split at hev
 all_goals first | (simp only [Option.some.injEq, Prod.mk.injEq] at hev; obtain ⟨rfl, rfl⟩ := hev; simp; done) | (simp at hev; done)
theorem p126_ok {vs : List CV} {h h' : Heap} {r : CV} (hev : p126 vs h = some (r, h')) : h.length ≤ h'.length ∧ ∀ fid, gam.F 126 = some fid → CallSim Tryz.prog gam fid vs h r h' := by
 refine ⟨?_, fun fid hf => by rw [show gam.F 126 = none from rfl] at hf; cases hf⟩
 unfold p126 at hev
 repeat' split at hev
 all_goals first | (simp only [Option.some.injEq, Prod.mk.injEq] at hev; obtain ⟨rfl, rfl⟩ := hev; simp; done) | (simp at hev; done)
theorem p125_ok {vs : List CV} {h h' : Heap} {r : CV} (hev : p125 vs h = some (r, h')) : h.length ≤ h'.length ∧ ∀ fid, gam.F 125 = some fid → CallSim Tryz.prog gam fid vs h r h' := by
 refine ⟨?_, fun fid hf => by rw [show gam.F 125 = none from rfl] at hf; cases hf⟩
 unfold p125 at hev
 repeat' split at hev
 all_goals first | (simp only [Option.some.injEq, Prod.mk.injEq] at hev; obtain ⟨rfl, rfl⟩ := hev; simp; done) | (simp at hev; done)
theorem lib_ok : PrimOK Tryz.prog gam lib := by
 intro f g hf vs h r h' hev
 unfold lib at hf
 split at hf <;> cases hf
 ·exact p121_ok hev
 ·exact p122_ok hev
 ·exact p123_ok hev
 ·exact p124_ok hev
 ·exact p125_ok hev
 ·exact p126_ok hev
 ·exact p128_ok hev
 ·exact p136_ok hev
 ·exact p137_ok hev
end Go.Proofs.YtlndogibbgibgaaGreatDoor
