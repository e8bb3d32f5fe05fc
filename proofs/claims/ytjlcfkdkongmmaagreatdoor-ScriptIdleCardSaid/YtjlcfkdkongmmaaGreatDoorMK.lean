/-
  Texts laid together: AEnP AEnQ.
-/
import Derived.Test.YtjlcfkdkongmmaaGreatDoorMJ
namespace Go.Cl
open Go
set_option linter.unusedSimpArgs false
set_option linter.unusedVariables false
set_option maxHeartbeats 1000000
theorem RunJ.now {x : JobV} {c left used : Int} (r : RunJ x c left used) : nowF x = (⟨1, c, 0, 0, []⟩, true) := by
 unfold nowF
 rw [r.live, r.pc, r.flat]
 simp
theorem RunJ.begin {x : JobV} {c : Int} (r : RunJ x c 0 0) : beginF x = ({ x with left := c }, true) := by
 unfold beginF
 rw [r.now, r.left, r.used, r.most]
 simp
theorem RunJ.tick {x : JobV} {c d u : Int} (r : RunJ x c d u) (h1 : 2 ≤ d) (h2 : d ≤ 20) (h3 : 0 ≤ u) (h4 : u ≤ 20) : (tickF x).2 = false ∧ RunJ (tickF x).1 c (d - 1) (u + 1) := by
 have e : tickF x = ({ x with left := d - 1, used := u + 1 }, false) := by
  unfold tickF
  rw [r.live, r.left, r.used, r.most, w64 (x := d - 1) (by omega) (by omega), w64 (x := u + 1) (by omega) (by omega), if_pos ⟨rfl, by omega⟩, if_neg (by omega)]
  have : ¬ u + 1 = 500 := by omega
  simp [this]
 rw [e]
 exact ⟨rfl, r.live, r.flat, r.pc, rfl, rfl, r.most, r.held, r.waits⟩
variable {cs : List Int} {s : CoreS} {k : Nat} {d c : Int}
def rev : Nat → List Int
 | 0 => []
 | n + 1 => (n : Int) :: rev n
@[simp] theorem rev_length : ∀ n, (rev n).length = n
 | 0 => rfl
 | n + 1 => by simp [rev, rev_length n]
abbrev Ev := Int × Int × Int × Int
def evq (q : Ev) : List CV := evt q.1 q.2.1 q.2.2.1 q.2.2.2
end Go.Cl
