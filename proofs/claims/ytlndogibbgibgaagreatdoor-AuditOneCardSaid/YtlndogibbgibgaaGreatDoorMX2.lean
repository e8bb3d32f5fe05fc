/-
  Texts laid together: ARan.
-/
import Derived.Test.YtlndogibbgibgaaGreatDoorM7
import Derived.Test.YtlndogibbgibgaaGreatDoorMF1
import Derived.Test.YtlndogibbgibgaaGreatDoorM4
namespace Go.Cl
open Go
set_option linter.unusedSimpArgs false
set_option linter.unusedVariables false
set_option maxHeartbeats 1000000
def ranC : SCode := match S.b482 with
 | .seq _ (.block _ (.loop _ (.seq _ (.seq _ (.block _ (.seq _ c)))))) => c
 | _ => .skip
theorem stoR {h : Heap} {b o : Nat} {cs : List CV} {v : CV} {st : St} (hs : st ≠ .ro) (e : h[b]? = some (.arr cs st)) (ho : o < cs.length) (hv : v.scalar = true) : storeAt h b o [v] = some (h.set b (.arr (cs.set o v) st)) := by
 simp only [storeAt, e]
 rw [if_pos ⟨hs, by simp; omega, by simp [hv]⟩, splice_set ho]
theorem ran_round {p : PP} {h : Heap} {ob oo n c pb po pn pc q : Nat} {cells pcs : List CV} {st pst : St} {task : Int} {x : MapE} (g : h[ob]? = some (.arr cells st)) (gp : h[pb]? = some (.arr pcs pst)) (hst : st ≠ .ro) (hx : entOk pcs po pn n cells (tgt pcs po oo task) x = true) (ht0 : 0 ≤ task) (ht1 : task < pn) (ht : isI pcs[po + task.toNat]? = true) :
  W p ranC ((8, x.1) :: (9, x.2.1) :: [(0, .sl ob oo n c), (2, .sl pb po pn pc), (3, .int .i64 task), (11, .ptr q 0)]) h fun r e' h' => r = .normal ∧ h' = (match tgt pcs po oo task x with | none => h | some j => match cells[j]? with | some v => h.set ob (.arr (cells.set j (upI v)) st) | none => h) ∧ ∀ i v, Env.get [(0, .sl ob oo n c), (2, .sl pb po pn pc), (3, .int .i64 task), (11, .ptr q 0)] i = some v → e'.get i = some v := by
 obtain ⟨k, i, b⟩ := x
 unfold entOk at hx
 simp only at hx
 split at hx
 case h_2 => cases hx
 rename_i k i
 simp only [Bool.and_eq_true, decide_eq_true_eq] at hx
 obtain ⟨⟨⟨⟨⟨k0, k1⟩, i0⟩, i1⟩, hk⟩, hT⟩ := hx
 obtain ⟨vk, hk⟩ := isI_some hk
 obtain ⟨vt, ht⟩ := isI_some ht
 have l0 := ld g
 have lp := ld gp
 have hpk : prAt pcs po k = vk := by simp [prAt, hk]
 have hpt : prAt pcs po task = vt := by simp [prAt, ht]
 unfold ranC S.b482
 by_cases hkt : k = task
 ·subst hkt
  have hTe : tgt pcs po oo k (.int .i64 k, .int .i64 i, b) = some (oo + i.toNat * 7 + 5) := by simp [tgt]
  rw [hTe] at hT ⊢
  obtain ⟨v, hv⟩ := isI_some hT
  have hlt := (List.getElem?_eq_some_iff.1 hv).1
  have s1 := stoR hst g (o := oo + i.toNat * 7 + 5) (v := .int .i64 (IntKind.i64.wrap (v + 1))) hlt rfl
  simp [l0, i0, i1, hv, s1, upI]
 ·by_cases hlt : vt < vk
  ·have hTe : tgt pcs po oo task (.int .i64 k, .int .i64 i, b) = some (oo + i.toNat * 7 + 6) := by simp [tgt, hkt, hpk, hpt, hlt]
   rw [hTe] at hT ⊢
   obtain ⟨v, hv⟩ := isI_some hT
   have hl := (List.getElem?_eq_some_iff.1 hv).1
   have s1 := stoR hst g (o := oo + i.toNat * 7 + 6) (v := .int .i64 (IntKind.i64.wrap (v + 1))) hl rfl
   simp [hkt, l0, lp, i0, i1, hv, s1, upI, k0, k1, ht0, ht1, hk, ht, hlt]
  ·have hTe : tgt pcs po oo task (.int .i64 k, .int .i64 i, b) = none := by simp [tgt, hkt, hpk, hpt, hlt]
   rw [hTe]
   simp [hkt, l0, lp, k0, k1, ht0, ht1, hk, ht, hlt]
   intro j v hj
   simp only [Env.get] at hj ⊢
   repeat' split at hj
   all_goals
    first
     | cases hj; done
     | simp_all
end Go.Cl
