/-
  Texts laid together: AScS.
-/
import Derived.Test.YtlndogibbgibgaaGreatDoorM4
import Derived.Test.YtlndogibbgibgaaGreatDoorMG
import Derived.Test.YtlndogibbgibgaaGreatDoorM5
import Derived.Test.YtlndogibbgibgaaGreatDoorS
namespace Go.Cl
open Go
set_option linter.unusedSimpArgs false
set_option linter.unusedVariables false
set_option maxHeartbeats 1000000
variable {p : PP}
theorem bad_spec (hp : p.Pg 451 = some S.f451) (hq : p.pr 451 = none) {h : Heap} {x : Int} : WF p 451 [.int .i64 x] h fun r h' => r = .bool (badN x) ∧ h' = h := by
 refine WF_of hp hq ?_
 show W p S.b451 _ _ (retQ [.t 2] _)
 unfold S.b451
 by_cases h1 : x < -1
 ·simp [h1, badN]
 ·simp [h1, badN]
def IfInv (v : CV) (l : List Int) (h : Heap) (m : Nat) (e : Env) (h' : Heap) : Prop :=
 ∃ i : Nat, i ≤ l.length ∧ m = l.length - i ∧ e = [(0, v), (1, .fn 451 []), (7, .int .i64 l.length), (8, .int .i64 i)] ∧ h' = h ∧ (l.take i).any badN = false
theorem idxf_spec (hp : p.Pg = S.pg) (q455 : p.pr 455 = none) (q451 : p.pr 451 = none) {h : Heap} {v : CV} {l : List Int} {P : Nat → Prop} (s : Sl (.int .i64) h P v l) (hb : l.length ≤ big) :
  WF p 455 [v, .fn 451 []] h fun r h' => (∃ k : Int, r = .int .i64 k ∧ decide (0 ≤ k) = l.any badN) ∧ h' = h := by
 refine WF_of (by rw [hp]; exact S.pg455) q455 ?_
 show W p S.b455 _ _ (retQ [.t 4] _)
 unfold S.b455
 have n0 := s.len (by decide)
 simp [n0]
 refine W_loop (IfInv v l h) ?_ l.length ⟨0, by omega, by omega, rfl, rfl, rfl⟩
 rintro m e h' ⟨i, hi, rfl, rfl, rfl, ht⟩
 by_cases hia : i = l.length
 ·subst hia
  rw [List.take_length] at ht
  simp [ht]
 ·have hlt : i < l.length := by omega
  have hlt' : (i : Int) < l.length := by omega
  obtain ⟨b0, o0, x1, x2, x3⟩ := readI_idx (k' := .i64) s.ints hlt
  have hw : IntKind.i64.wrap ((i : Int) + 1) = ((i + 1 : Nat) : Int) := by
   simp [big] at hb
   rw [w64 (by omega) (by omega)]; omega
  simp [hlt', x1, x3]
  refine (bad_spec (by rw [hp]; exact S.pg451) q451).mono ?_
  rintro r h' ⟨rfl, rfl⟩
  cases hx : badN l[i] with
  | true =>
    have : l.any badN = true := List.any_eq_true.2 ⟨l[i], List.getElem_mem hlt, hx⟩
    simp [hx, this]
  | false =>
    simp [hx, hw]
    refine ⟨l.length - (i + 1), by omega, i + 1, by omega, rfl, rfl, rfl, ?_⟩
    rw [← List.take_append_getElem hlt, List.any_append, ht]
    simp [hx]
theorem cont_spec (hp : p.Pg = S.pg) (q452 : p.pr 452 = none) (q455 : p.pr 455 = none) (q451 : p.pr 451 = none) {h : Heap} {v : CV} {l : List Int} {P : Nat → Prop} (s : Sl (.int .i64) h P v l) (hb : l.length ≤ big) :
  WF p 452 [v, .fn 451 []] h fun r h' => r = .bool (l.any badN) ∧ h' = h := by
 refine WF_of (by rw [hp]; exact S.pg452) q452 ?_
 show W p S.b452 _ _ (retQ [.t 4] _)
 unfold S.b452
 simp
 refine (idxf_spec hp q455 q451 s hb).mono ?_
 rintro r h' ⟨⟨k, rfl, hk⟩, rfl⟩
 simp [← hk]
def CsInv (v : CV) (l : List (List Int)) (h : Heap) (m : Nat) (e : Env) (h' : Heap) : Prop :=
 ∃ i : Nat, i ≤ l.length ∧ m = l.length - i ∧ e = [(9, v), (10, .int .i64 l.length), (11, .int .i64 i)] ∧ h' = h ∧ checkL 0 l = checkL i (l.drop i)
theorem check_spec (hp : p.Pg = S.pg) (q447 : p.pr 447 = none) (q452 : p.pr 452 = none) (q455 : p.pr 455 = none) (q451 : p.pr 451 = none) {h : Heap} {v : CV} {l : List (List Int)} {P : Nat → Prop} (s : Sl (.sl (.int .i64)) h P v l) (hb : l.length ≤ big) :
  WF p 447 [v] h fun r h' => r = .tup [.int .i64 (checkS l).1, .int .i64 (checkS l).2] ∧ h' = h := by
 refine WF_of (by rw [hp]; exact S.pg447) q447 ?_
 show W p S.b447 _ _ (retQ [.t 2, .t 3] _)
 unfold S.b447
 have n0 := s.len (by decide)
 by_cases h1 : 4096 < l.length
 ·have h1' : (4096 : Int) < l.length := by omega
  simp [n0, h1', checkS, h1]
 have h1' : ¬ (4096 : Int) < l.length := by omega
 simp [n0, h1', checkS, h1]
 refine W_loop (CsInv v l h) ?_ l.length ⟨0, by omega, by omega, rfl, rfl, rfl⟩
 rintro m e h' ⟨i, hi, rfl, rfl, rfl, ht⟩
 by_cases hia : i = l.length
 ·subst hia
  rw [List.drop_length] at ht
  simp [ht, checkL]
 ·have hlt : i < l.length := by omega
  have hlt' : (i : Int) < l.length := by omega
  obtain ⟨b0, o0, row, x1, x2, x3, v1, rfl, s1⟩ := s.row (k := .i64) (by decide) hlt
  have x4 := x3 0 (by decide)
  simp at x4
  have x1' : idxAddrV 1 v (.int .i64 (i : Int)) = some (.ptr b0 o0) := x1
  have n1 := s1.len (by decide)
  have hw : IntKind.i64.wrap ((i : Int) + 1) = ((i + 1 : Nat) : Int) := by
   rw [w64 (by omega) (by omega)]; omega
  rw [List.drop_eq_getElem_cons hlt, checkL] at ht
  by_cases h2 : 64 < l[i].length
  ·have h2' : (64 : Int) < l[i].length := by omega
   rw [if_pos h2] at ht
   simp [hlt', x1', x4, n1, h2', ht]
  ·have h2' : ¬ (64 : Int) < l[i].length := by omega
   rw [if_neg h2] at ht
   simp [hlt', x1', x4, n1, h2']
   refine (cont_spec hp q452 q455 q451 s1 (by simp [big]; omega)).mono ?_
   rintro r h' ⟨rfl, rfl⟩
   cases hx : l[i].any badN with
   | true =>
     rw [if_pos hx] at ht
     simp [hx, ht]
   | false =>
     rw [if_neg (by simp [hx])] at ht
     simp [hx, hw]
     exact ⟨l.length - (i + 1), by omega, i + 1, by omega, rfl, rfl, rfl, ht⟩
end Go.Cl
