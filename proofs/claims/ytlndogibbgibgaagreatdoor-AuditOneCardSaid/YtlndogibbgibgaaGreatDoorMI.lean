/-
  Texts laid together: AEnG AEnH AEnI AEnJ AEnK.
-/
import Derived.Test.YtlndogibbgibgaaGreatDoorMH
import Derived.Test.YtlndogibbgibgaaGreatDoorMD
import Derived.Test.YtlndogibbgibgaaGreatDoorME
namespace Go.Cl
open Go
set_option linter.unusedSimpArgs false
set_option linter.unusedVariables false
set_option maxHeartbeats 1000000
variable {p : PP} {K : CoreB} {cells : List CV} {l : List TaskV} {s : CoreS} {Q : Nat → Prop} {h h' : Heap}
def baseL (jobs : List JobV) : List Int := jobs.mapIdx fun j x => if x.live = true then ((jobs.length - j : Nat) : Int) else 0
@[simp] theorem baseL_length {jobs : List JobV} : (baseL jobs).length = jobs.length := by simp [baseL]
theorem prios_none {L M : List Int} (q : IsPrios L [] M) : M = L := (IsPrios.unique q ⟨OnWay.start L [], fun e he => by simp at he⟩)
def topI (o : Option Nat) : Int := match o with | some t => (t : Int) | none => -1
theorem Own.on {v : CV} {L : List CV} (o : Own h v L) (k : Keep NoneOf h h') : Own h' v L := o.keep k fun _ _ => id
def evtC : Cod (List CV) where
 n := 7
 rep _ _ c x := c = x ∧ x.length = 7 ∧ x.all CV.scalar = true
 len e := by obtain ⟨rfl, e, _⟩ := e; exact e
 flat e := by obtain ⟨rfl, _, e⟩ := e; exact e
 mono e _ := e
 keep e _ _ := e
 lt e := e
theorem evtC_evt {h : Heap} {P : Nat → Prop} {t k i er : Int} : evtC.rep h P (evt t k i er) (evt t k i er) := ⟨rfl, rfl, rfl⟩
theorem evtC_one {h : Heap} {x : List CV} (hx : x.length = 7) (hs : x.all CV.scalar = true) : Sl evtC (h ++ [.arr x .tight]) (From h) (.sl h.length 0 1 1) [x] :=
 Sl.fresh (Rows.one ⟨rfl, hx, hs⟩) rfl
theorem cloneOp (lp : LP p) {h : Heap} {P : Nat → Prop} {v : CV} {l : List OpV} (s : Sl opC h P v l) (hP : ∀ b, P b → b < h.length) (hb : l.length ≤ 1000) :
  WF p 333 [v] h fun r h' => r.scalar = true ∧ Keep NoneOf h h' := by
 by_cases hv : v = .nils
 ·subst hv
  refine WF_of (by rw [lp.pg]; exact S.pg333) (lp.no ⟨rfl, rfl⟩) ?_
  show W p S.b333 _ _ (retQ [.t 2] _)
  unfold S.b333
  simp
  exact Keep.refl _ _
 ·exact (cloneO lp s hv hP hb).mono fun r h' q => ⟨q.1.scalar, q.2.1⟩
set_option maxHeartbeats 2000000
theorem stJob (c : CoreA K cells l s Q h) {i : Nat} {row : List CV} {x : JobV} (hi : i < l.length) (r : jobC.rep h Q row x) : storeAt h K.jb (i * 10) row = some (h.set K.jb (.arr (splice cells (i * 10) row) .tight)) := by
 have dl : row.length = 10 := jobC.len r
 have := c.jobN
 rw [stt c.jg, if_pos ⟨by rw [dl]; omega, jobC.flat r⟩]
end Go.Cl
