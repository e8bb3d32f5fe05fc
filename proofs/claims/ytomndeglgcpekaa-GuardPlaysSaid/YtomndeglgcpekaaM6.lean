/-
  Texts laid together: ClClone LClone.
-/
import Derived.Test.YtomndeglgcpekaaM3
import Derived.Test.YtomndeglgcpekaaLink
import Derived.Test.YtomndeglgcpekaaShelf

namespace Go.Cl
open Go

/-- a new map with the same entries -/
def p54 : List CV → Heap → Option (CV × Heap)
  | [.mp b], h => (match h[b]? with
    | some (.map es c) => some (.mp h.length, h ++ [.map es c])
    | _ => none)
  | _, _ => none

def cloneLib : Prims := fun f => match f with
  | 54 => some p54
  | _ => none

end Go.Cl

namespace Go.Proofs.Ytomndeglgcpekaa
open Go Go.Cl
set_option linter.unusedSimpArgs false
set_option linter.unusedVariables false

theorem trL_mp {G : Gam} {m : Mp} {b : Nat} {l : List CV} {rvs : List Value} (h : trL G m (.mp b :: l) = some rvs) : ∃ L rest, m b = some L ∧ rvs = .map (some L.blk) :: rest ∧ trL G m l = some rest := by
  simp only [trL, tr] at h
  cases hb : m b with
  | none => simp [hb] at h
  | some L =>
    simp only [hb, Option.map_some] at h
    cases hl : trL G m l with
    | none => simp [hl] at h
    | some rest =>
      simp [hl] at h
      exact ⟨L, rest, rfl, h.symm, rfl⟩

theorem rel_mono {G : Gam} {m m' : Mp} (hm : m.le m') {x : CV × CV × Nat} {y : MapEntry} (h : Entry.rel G m x y) : Entry.rel G m' x y :=
  ⟨tr_mono G hm _ _ h.1, tr_mono G hm _ _ h.2.1, h.2.2⟩

theorem p54_ok {vs : List CV} {h h' : Heap} {r : CV} (hev : p54 vs h = some (r, h')) : h.length ≤ h'.length ∧ ∀ fid, gam.F 54 = some fid → CallSim Try.prog gam fid vs h r h' := by
  unfold p54 at hev
  split at hev
  · rename_i hh b
    split at hev
    · rename_i es c hb
      simp only [Option.some.injEq, Prod.mk.injEq] at hev
      obtain ⟨rfl, rfl⟩ := hev
      refine ⟨by simp, fun fid hf => ?_⟩
      have e := Option.some.inj (hf.symm.trans (show gam.F 54 = some _ from rfl))
      subst e
      refine made_sim fun m w rvs si ht => ?_
      obtain ⟨L, rest, hL, rfl, ht1⟩ := trL_mp ht
      obtain rfl := trL_nil ht1
      obtain ⟨ES, hES, hsz, hrel⟩ := si.obj b L _ hL hb
      refine (Try.maps_Clone L.blk ES c w hES).mono fun e w' ⟨he, hw⟩ => ?_
      subst hw
      refine ⟨_, ⟨w.heap.size, 0, 0, none⟩, he, Calm.alloc w _, Nat.le_refl _, ?_, ?_⟩
      · simp only [tr, Mp.upd_same, Option.map_some]
      · refine ⟨ES, alloc_get w _, hsz, fun i x hx => ?_⟩
        obtain ⟨y, hy, hr⟩ := hrel i x hx
        exact ⟨y, hy, rel_mono (Mp.upd_le si.fresh) hr⟩
    · simp at hev
  · simp at hev

theorem clone_ok : PrimOK Try.prog gam cloneLib := by
  intro f g hf vs h r h' hev
  unfold cloneLib at hf
  split at hf <;> cases hf
  exact p54_ok hev

end Go.Proofs.Ytomndeglgcpekaa
