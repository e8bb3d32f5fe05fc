/-
  Texts laid together: RBC.
-/
import Derived.Test.YtomndeglgcpekaaRows
import Derived.Test.YtomndeglgcpekaaLink
import Derived.Test.YtomndeglgcpekaaM6
import Derived.Test.YtomndeglgcpekaaM3

namespace Go.Proofs.Ytomndeglgcpekaa
open Go Go.Cl

theorem own : ownKnob Try.prog.godebug = none := by kernel_rfl
theorem laidOut : laidOutB Try.prog = true := by kernel_rfl

theorem known4 : yes (evCall S.pg cloneLib 40 4 [] []) = true := by kernel_rfl

theorem primsGuard : PrimOK Try.prog gam (addKnown [4] cloneLib) :=
  addKnown_ok mixed good linked clone_ok fun f hf => by
    simp at hf
    subst hf
    exact ⟨40, known4⟩

end Go.Proofs.Ytomndeglgcpekaa
