/-
  What the rows of the jobs' laws share: the program's own facts, what 'known' answers.
-/
import Derived.Test.YtofpioacialnkaaRows
import Derived.Test.YtofpioacialnkaaLink
import Derived.Test.YtofpioacialnkaaCl17
import Derived.Test.YtofpioacialnkaaCl18
namespace Go.Proofs.Ytofpioacialnkaa
open Go Go.Cl

theorem own : ownKnob Try.prog.godebug = none := by kernel_rfl
theorem laidOut : laidOutB Try.prog = true := by kernel_rfl

theorem known27 : yes (evCall S.pg noPr 60 27 [] []) = true := by kernel_rfl

theorem primsJob : PrimOK Try.prog gam (addKnown [27] noPr) :=
  addKnown_ok mixed good linked noPr_ok fun f hf => by
    simp at hf
    subst hf
    exact ⟨60, known27⟩

end Go.Proofs.Ytofpioacialnkaa
