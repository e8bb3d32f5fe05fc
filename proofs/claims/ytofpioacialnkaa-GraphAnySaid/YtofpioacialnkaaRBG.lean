/-
  What the rows of the graph's laws share: the program's own facts, what 'known' answers.
-/
import Derived.Test.YtofpioacialnkaaRows
import Derived.Test.YtofpioacialnkaaLink
import Derived.Test.YtofpioacialnkaaCl17
import Derived.Test.YtofpioacialnkaaCl18
namespace Go.Proofs.Ytofpioacialnkaa
open Go Go.Cl

theorem own : ownKnob Try.prog.godebug = none := by kernel_rfl
theorem laidOut : laidOutB Try.prog = true := by kernel_rfl

theorem known16 : yes (evCall S.pg noPr 40 16 [] []) = true := by kernel_rfl

theorem primsGraph : PrimOK Try.prog gam (addKnown [16] noPr) :=
  addKnown_ok mixed good linked noPr_ok fun f hf => by
    simp at hf
    subst hf
    exact ⟨40, known16⟩

end Go.Proofs.Ytofpioacialnkaa
