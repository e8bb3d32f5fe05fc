/-
  Texts laid together: AXR.
-/
import Derived.Test.YtlndogibbgibgaaGreatDoorMU
namespace Go.Cl
open Go
set_option linter.unusedSimpArgs false
set_option linter.unusedVariables false
set_option maxHeartbeats 1000000
variable {p : PP} {K : CoreW} {cells : List CV} {X : SetV} {s : CoreX} {Q : Nat → Prop} {h h' : Heap}
def coreX0 (X : SetV) : CoreX := ⟨List.replicate X.tasks.length deadJ, List.replicate X.locks.toNat (-1), fun _ => none, 0, 0, 0⟩
theorem fit0 (h : 0 ≤ X.locks) : Fit X (coreX0 X) := by
 refine ⟨fun i z hz => ?_, by simp [coreX0]; omega⟩
 have : z = deadJ := by
  have := List.mem_of_getElem? hz
  simp only [coreX0, List.mem_replicate] at this
  exact this.2
 rw [this]
 exact WellJ.dead
def NewY (x : SetV) (h : Heap) (r : CV) (h' : Heap) : Prop :=
 Keep NoneOf h h' ∧ ∃ eb K cells Q, r = .tup [.ptr eb 0, .int .i64 0] ∧ CoreV K cells x (coreX0 x) Q h' ∧ h'[eb]? = some (.arr [.ptr K.b 0] .tight) ∧ ¬ K.own eb ∧ ¬ Q eb ∧ h.length ≤ eb ∧ ∀ y, K.own y → h.length ≤ y
theorem newY (lp : LP p) {h : Heap} {P : Nat → Prop} {x : SetV} {tv : CV} {k : Nat} (st : Sl taskC h P tv x.tasks) (hl : x.locks = k) (hk8 : k ≤ 8) (hc : x.chans = []) (hP : ∀ b, P b → b < h.length) (hs : x.Sane) (hok : (setP x).2 = 0) (hlk : ∀ t ∈ x.tasks, (locksL t.prog).length ≤ 1) :
  WF p 441 [.agg [.int .i64 k, .nils, tv]] h (NewY x h) := by
 refine WF_of (by rw [lp.pg]; exact S.pg441) (lp.no ⟨rfl, rfl⟩) ?_
 show W p S.b441 _ _ (retQ [.t 2, .t 3] _)
 unfold S.b441
 have hca : ∀ l, (CV.agg l).cells = l := fun _ => rfl
 have kap := Keep.app NoneOf h [.arr [.int .i64 k, .nils, tv] .tight]
 have w0 := ldw (get_new (h := h) (o := .arr [.int .i64 k, .nils, tv] .tight)) (n := 3) rfl
 have st1 := st.on kap
 have hl1 : (h ++ [Obj.arr [.int .i64 k, .nils, tv] .tight]).length = h.length + 1 := by simp
 simp [hca, w0]
 generalize h ++ [Obj.arr [.int .i64 k, .nils, tv] .tight] = H1 at *
 refine (newX lp st1 hl hk8 hc (fun b hb => by have := hP b hb; omega) hs hok hlk).mono ?_
 rintro r h2 ⟨k2, K, cells, Q, rfl, c2, e5⟩
 have f1 : fillC [.nilp] [(0, 1, .ptr K.b 0)] = some [.ptr K.b 0] := rfl
 simp [f1, hca]
 have k3 := Keep.app NoneOf h2 [.arr [.ptr K.b 0] .tight]
 have c3 := c2.on k3
 exact ⟨(kap.trans k2).trans k3, h2.length, K, cells, Q, rfl, c3, by simp, fun o => by have := c2.own_lt _ o; omega, fun q => by have := (c2.hQ _ q).1; omega, by have := k2.len; omega, fun y hy => by have := e5 y hy; omega⟩
theorem loopX_fit : ∀ {n : Nat} {s s' : CoreX} {e : List (List CV)}, Fit X s → loopX X n s = some (s', e) → Fit X s' ∧ s'.now = s.now
 | 0, s, s', e, _, h => by simp [loopX] at h
 | n + 1, s, s', e, q, h => by
   simp only [loopX] at h
   split at h
   ·simp at h; rw [← h.1]; exact ⟨q, rfl⟩
   ·split at h
    ·simp at h
    ·rename_i z hz
     split at h
     ·rename_i hl
      split at h
      ·simp at h
      ·rename_i s2 e2 hb
       simp at h
       obtain ⟨q1, n1⟩ := q.tick hz hl
       obtain ⟨q2, n2⟩ := behindX_fit q1 hb
       rw [← h.1]
       exact ⟨q2, by rw [n2, n1]⟩
     ·split at h
      ·simp at h
      ·rename_i s1 e1 ho
       split at h
       ·simp at h
       ·rename_i s2 e2 hb
        simp at h
        obtain ⟨q1, n1⟩ := q.op ho
        obtain ⟨q2, n2⟩ := loopX_fit q1 hb
        rw [← h.1]
        exact ⟨q2, by rw [n2, n1]⟩
theorem Fit.time (q : Fit X s) (now : Int) : Fit X { s with now := now } := ⟨fun i z hz => q.well i z hz, q.own⟩
end Go.Cl
