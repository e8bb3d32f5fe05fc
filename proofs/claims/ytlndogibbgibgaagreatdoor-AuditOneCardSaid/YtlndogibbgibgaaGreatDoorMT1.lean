/-
  Texts laid together: AXO.
-/
import Derived.Test.YtlndogibbgibgaaGreatDoorMT
namespace Go.Cl
open Go
set_option linter.unusedSimpArgs false
set_option linter.unusedVariables false
set_option maxHeartbeats 1000000
variable {X : SetV} {s : CoreX}
theorem WellX.put (w : WellX X s) {i : Nat} {z : JobV} {own : List Int} (hz : WellJ X own i z) (hj : ∀ (l j : Nat), j ≠ i → s.own[l]? = some (j : Int) → own[l]? = some (j : Int)) : WellX X { s with jobs := s.jobs.set i z, own := own } := fun j y hy => by
 have hy : (s.jobs.set i z)[j]? = some y := hy
 by_cases hji : j = i
 ·subst hji
  have hlt := (List.getElem?_eq_some_iff.1 hy).1
  rw [List.length_set] at hlt
  rw [List.getElem?_set_self hlt] at hy
  obtain rfl := Option.some.inj hy
  exact hz
 ·rw [List.getElem?_set_ne (by omega)] at hy
  have q := w j y hy
  exact ⟨q.waits, q.flat, q.pc, q.left, q.heldl, q.nd, fun l hl => by obtain ⟨a, b, c⟩ := q.held l hl; exact ⟨a, b, hj _ _ hji c⟩⟩
theorem WellJ.dead {own : List Int} {i : Nat} : WellJ X own i deadJ := ⟨rfl, by simp [deadJ], by simp [deadJ], fun h => absurd rfl h, by simp [deadJ], by simp [deadJ], by simp [deadJ]⟩
theorem now_pc {z : JobV} (h : (nowF z).2 = true) : 0 ≤ z.pc ∧ z.pc < z.flat.length := by
 unfold nowF at h
 split at h
 ·rename_i q; exact q.2
 ·cases h
theorem abort_well (w : WellX X s) {i : Nat} {z : JobV} (hz : s.jobs[i]? = some z) : WellX X (abortS s i z) := by
 refine w.put WellJ.dead fun l j hj ho => ?_
 rw [freeL_get fun k hk => ⟨((w i z hz).held k hk).1, fun e => ?_⟩]
 ·exact ho
 ·have := ((w i z hz).held k hk).2.2
  rw [e, show ((l : Int)).toNat = l by omega, ho] at this
  have := Option.some.inj this
  omega
theorem op_well (w : WellX X s) (hol : (s.own.length : Int) = X.locks) {i : Nat} {bh : Bool} {s' : CoreX} {ev : List (List CV)} (ho : opSX s i bh = some (s', ev)) :
  WellX X s' ∧ s'.own.length = s.own.length ∧ s'.jobs.length = s.jobs.length ∧ s'.now = s.now ∧ s'.seq = s.seq ∧ s'.f = s.f ∧ s'.gn = s.gn := by
 unfold opSX at ho
 cases hx : s.jobs[i]? with
 | none => rw [hx] at ho; cases ho
 | some z =>
   rw [hx] at ho
   simp only at ho
   have wz := w i z hx
   have hf := wz.flat
   split at ho
   case isFalse => cases ho
   split at ho
   ·cases ho
    exact ⟨w.set WellJ.dead, rfl, by simp, rfl, rfl, rfl, rfl⟩
   rename_i hok
   have hok : (nowF z).2 = true := by simpa using hok
   have hpc := now_pc hok
   have hw : IntKind.i64.wrap (z.pc + 1) = z.pc + 1 := w64 (by omega) (by omega)
   split at ho
   ·split at ho
    ·cases ho
     refine ⟨w.set ?_, rfl, by simp, rfl, rfl, rfl, rfl⟩
     unfold beginF
     split
     ·exact ⟨wz.waits, wz.flat, wz.pc, fun _ => hpc.2, wz.heldl, wz.nd, wz.held⟩
     ·exact wz
    ·cases ho
     exact ⟨abort_well w hx, by simp [abortS], by simp [abortS], rfl, rfl, rfl, rfl⟩
   split at ho
   ·split at ho
    ·rename_i hl
     cases ho
     generalize (nowF z).1.n = l at *
     obtain ⟨k, rfl⟩ : ∃ k : Nat, l = k := ⟨l.toNat, by omega⟩
     rw [show (k : Int).toNat = k by omega] at hl ⊢
     have hkl := (List.getElem?_eq_some_iff.1 hl.2).1
     have hnot : ∀ l' ∈ z.held, l' ≠ (k : Int) := fun l' hl' e => by
      have := (wz.held l' hl').2.2
      rw [e, show (k : Int).toNat = k by omega, hl.2] at this
      have := Option.some.inj this
      omega
     refine ⟨w.put ⟨rfl, wz.flat, ?_, fun h => absurd rfl h, ?_, ?_, fun l' hl' => ?_⟩ fun l' j hj ho => ?_, by simp, by simp, rfl, rfl, rfl, rfl⟩
     ·show 0 ≤ IntKind.i64.wrap (z.pc + 1) ∧ IntKind.i64.wrap (z.pc + 1) ≤ z.flat.length
      rw [hw]; omega
     ·show (((z.held ++ [(k : Int)]).length : Nat) : Int) ≤ IntKind.i64.wrap (z.pc + 1)
      have := wz.heldl
      rw [hw]; simp; omega
     ·show (z.held ++ [(k : Int)]).Nodup
      rw [List.nodup_append]
      exact ⟨wz.nd, by simp, fun a ha b hb e => by simp at hb; exact hnot a ha (by rw [e, hb])⟩
     ·have hl' : l' ∈ z.held ++ [(k : Int)] := hl'
      rw [List.mem_append] at hl'
      rcases hl' with hl' | hl'
      ·obtain ⟨a, b, c⟩ := wz.held l' hl'
       refine ⟨a, b, ?_⟩
       rw [List.getElem?_set_ne (by have := hnot l' hl'; omega)]
       exact c
      ·simp at hl'
       subst hl'
       rw [show (k : Int).toNat = k by omega, List.getElem?_set_self hkl]
       exact ⟨by omega, by omega, rfl⟩
     ·rw [List.getElem?_set_ne]
      ·exact ho
      ·intro e
       rw [← e, hl.2] at ho
       have := Option.some.inj ho
       omega
    ·cases ho
   split at ho
   ·split at ho
    ·rename_i hl
     cases ho
     generalize (nowF z).1.n = l at *
     obtain ⟨k, rfl⟩ : ∃ k : Nat, l = k := ⟨l.toNat, by omega⟩
     rw [show (k : Int).toNat = k by omega] at hl ⊢
     have hfl : (z.held.filter fun y => decide (y ≠ (k : Int))).length ≤ z.held.length := List.length_filter_le _ _
     refine ⟨w.put ⟨rfl, wz.flat, ?_, fun h => absurd rfl h, ?_, ?_, fun l' hl' => ?_⟩ fun l' j hj ho => ?_, by simp, by simp, rfl, rfl, rfl, rfl⟩
     ·show 0 ≤ IntKind.i64.wrap (z.pc + 1) ∧ IntKind.i64.wrap (z.pc + 1) ≤ z.flat.length
      rw [hw]; omega
     ·show (((z.held.filter fun y => decide (y ≠ (k : Int))).length : Nat) : Int) ≤ IntKind.i64.wrap (z.pc + 1)
      have := wz.heldl
      rw [hw]; omega
     ·exact wz.nd.sublist List.filter_sublist
     ·have hl' : l' ∈ z.held.filter fun y => decide (y ≠ (k : Int)) := hl'
      rw [List.mem_filter] at hl'
      have hne : l' ≠ (k : Int) := by simpa using hl'.2
      obtain ⟨a, b, c⟩ := wz.held l' hl'.1
      refine ⟨a, b, ?_⟩
      rw [List.getElem?_set_ne (by omega)]
      exact c
     ·rw [List.getElem?_set_ne]
      ·exact ho
      ·intro e
       rw [← e, hl.2] at ho
       have := Option.some.inj ho
       omega
    ·cases ho
   ·cases ho
theorem tickS_well (w : WellX X s) {i : Nat} {z : JobV} (hz : s.jobs[i]? = some z) (hl : z.left ≠ 0) :
  WellX X (tickS s i z).1 ∧ (tickS s i z).1.own.length = s.own.length ∧ (tickS s i z).1.jobs.length = s.jobs.length ∧ (tickS s i z).1.now = s.now ∧ (tickS s i z).1.seq = s.seq ∧ (tickS s i z).1.f = s.f ∧ (tickS s i z).1.gn = s.gn := by
 have w1 : WellX X { s with jobs := s.jobs.set i (tickF z).1 } := w.set (tick_well (w i z hz) hl)
 have hil := (List.getElem?_eq_some_iff.1 hz).1
 unfold tickS
 split
 ·exact ⟨abort_well w1 (List.getElem?_set_self hil), by simp [abortS], by simp [abortS], rfl, rfl, rfl, rfl⟩
 ·exact ⟨w1, rfl, by simp, rfl, rfl, rfl, rfl⟩
end Go.Cl
