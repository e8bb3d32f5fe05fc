/-
  Texts laid together: ACoreB.
-/
import Derived.Test.YtfeppjclogdoeaaGreatDoorM6
import Derived.Test.YtfeppjclogdoeaaGreatDoorM4
import Derived.Test.YtfeppjclogdoeaaGreatDoorS
import Derived.KernelRfl

namespace Go.Cl
open Go
set_option linter.unusedSimpArgs false
set_option linter.unusedVariables false

def prC : Prims := addKnown [303] (addRing noPr)
noncomputable def fpC : FPrims := addKnownF [303] (addRingF noF)
theorem prC_snd : PrimSnd fpC prC := (PrimSnd.ring noF_snd).known [303]
abbrev pC : PP := ⟨S.pg, prC⟩
noncomputable abbrev callC : FCall := callF S.pg fpC 3000 100

theorem run_end {c : SCode} {f e : Env} {rs : List RV} (E : SameE f e) (hk : go ((codeF 3000 c).run callC f .nil (finK rs)) = true) : W pC c e [] (retQ rs fun r _ => r = .bool true) :=
  fast_end (p := pC) (fp := fpC) (fuel := 3000) (n := 100) (f := f) (t := .nil) prC_snd E Rep.nil (go_eq hk)

end Go.Cl
