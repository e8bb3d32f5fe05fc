/-
  Layer 19, a guard: a new one.
-/
import Derived.Test.YtofpioacialnkaaAGuard
namespace Go.Cl
open Go
set_option linter.unusedSimpArgs false
set_option linter.unusedVariables false
variable {p : PP}

/-- tasks that can be read: their periods -/
def TasksAt (h : Heap) (tv : CV) (ps : List Int) : Prop := ∃ cs, Read h 5 tv cs ∧ cs.length = 5 * ps.length ∧ ∀ i, (hi : i < ps.length) → cs[i * 5 + 1]? = some (.int .i64 ps[i])

theorem new_spec {h : Heap} {x y tv : CV} {ps : List Int} (hp : p.Pg 5 = some S.f5) (hr : p.pr 5 = none) (ht : TasksAt h tv ps) (hbig : ps.length ≤ big) :
    WF p 5 [.agg [x, y, tv]] h fun r h' => ∃ g pv mb, r = .ptr g 0 ∧ GuardAt h' g pv mb ps (fun _ => none) 0 ∧ Keep (fun _ => False) h h' ∧ h.length ≤ g ∧ h.length ≤ mb ∧ (∀ b, pv.blk = some b → h.length ≤ b) := by
  refine WF_of hp hr ?_
  show W p S.b5 _ _ (retQ [.t 2] _)
  unfold S.b5
  obtain ⟨cs, t1, t2, t3⟩ := ht
  simp [CV.cells, fillC, splice]
  refine W_loop (fun m e h' => ∃ k pv, k ≤ ps.length ∧ m = ps.length - k ∧ e = [(1, .ptr h.length 0), (3, .ptr (h.length + 1 + 1) 0)] ∧ Keep (fun _ => False) h h' ∧
    h'[h.length]? = some (.arr [x, y, tv] .tight) ∧ h'[h.length + 1 + 1]? = some (.arr [pv, .mp (h.length + 1), .int .i64 0] .tight) ∧ h'[h.length + 1]? = some (.map [] 0) ∧
    Grown h' 1 pv (i64s (ps.take k)) ∧ (∀ b, pv.blk = some b → h.length ≤ b)) ?_ ps.length ⟨0, .nils, by omega, by omega, rfl, ?_, ?_, ?_, ?_, .inl ⟨rfl, rfl⟩, by simp [CV.blk]⟩
  · rintro m e h' ⟨k, pv, hk, rfl, rfl, kp, b1, b2, b3, gr, hb⟩
    have l1 := ld b1
    have l2 := ld b2
    have hpl : lenV h' .sl pv = some (.int .i64 (k : Int)) := by
      have := gr.read.len (by decide); simpa [Nat.min_eq_left hk] using this
    have tr := t1.keep kp (fun _ _ => id)
    have htl : lenV h' .sl tv = some (.int .i64 (ps.length : Int)) := by
      have := tr.len (by decide); rw [t2] at this; simpa using this
    by_cases hkn : k = ps.length
    · subst hkn
      simp [l1, l2, hpl, htl]
      refine ⟨pv, h.length + 1, ⟨b2, ?_, ⟨[], 0, b3, ⟨by simp, by simp, by simp⟩, fun _ => rfl⟩, ?_⟩, kp, by omega, by omega, hb⟩
      · have := gr.read; rwa [List.take_length] at this
      · rcases gr with ⟨rfl, _⟩ | ⟨b, n, rfl, _, _, q⟩
        · intro b hb'; simp [CV.blk] at hb'
        · intro b' hb'
          simp [CV.blk] at hb'; subst hb'
          exact ⟨ne_of_obj q b2 (by simp), ne_of_obj q b3 (by simp)⟩
    · have hlt : k < ps.length := by omega
      have hkn' : ¬ (k : Int) = (ps.length : Int) := by omega
      obtain ⟨b, o, c1, c2, c3⟩ := tr.cell (i := k) (k := .i64) (by rw [t2]; omega) (by decide)
      have c4 := c3 1 (by decide)
      rw [t3 k hlt] at c4
      have kp2 : Keep (fun _ => False) h' (h' ++ [.arr [.int .i64 ps[k]] .tight]) := Keep.app _ _ _
      have sp : spread (h' ++ [.arr [.int .i64 ps[k]] .tight]) 1 (.sl h'.length 0 1 1) = some (1, [.int .i64 ps[k]]) := by simp [spread, cellsAt]
      have gr2 := gr.keep kp2 (fun _ _ => id)
      obtain ⟨h3, a1, a2, a3, a4⟩ := append_grown (ys := [.int .i64 ps[k]]) (k := 1) gr2 (by decide) rfl rfl (by simp; omega) (by decide) (by decide)
      have hpv : ∀ b, pv.blk = some b → b ≠ h.length + 1 + 1 ∧ b ≠ h.length + 1 ∧ b ≠ h.length := by
        rcases gr with ⟨rfl, _⟩ | ⟨b, n, rfl, _, _, q⟩
        · intro b hb'; simp [CV.blk] at hb'
        · intro b' hb'
          simp [CV.blk] at hb'; subst hb'
          exact ⟨ne_of_obj q b2 (by simp), ne_of_obj q b3 (by simp), ne_of_obj q b1 (by simp)⟩
      have d1 := a4.at (kp2.at b1 id) (fun e => (hpv _ e).2.2 rfl)
      have d2 := a4.at (kp2.at b2 id) (fun e => (hpv _ e).1 rfl)
      have d3 := a4.at (kp2.at b3 id) (fun e => (hpv _ e).2.1 rfl)
      have s2 := stt d2
      simp [l1, l2, hpl, htl, hkn', c1, c4, fillC, CV.cells, splice, sp, a1, s2, fits, CV.scalar]
      refine ⟨ps.length - (k + 1), by omega, k + 1, by omega, rfl, ?_, ?_, ⟨_, get_set_self (lt_of_get d2), ?_, ?_, ?_⟩⟩
      · refine ((kp.trans kp2).then a4 fun i hi e => ?_).then (Keep.set (S := (· = h.length + 1 + 1)) _ _ rfl) fun i hi e => ?_
        · have := hb i e; omega
        · omega
      · rw [get_set_ne (by omega)]; exact d1
      · exact d3
      · have e : i64s (List.take (k + 1) ps) = i64s (List.take k ps) ++ [.int .i64 ps[k]] := by unfold i64s; rw [← List.take_append_getElem hlt, List.map_append]; rfl
        rw [e]
        have hlen : h.length + 1 + 1 < h'.length := lt_of_get b2
        have := a2.keep (Keep.set (S := (· = h.length + 1 + 1)) h3 (.arr [.sl (h'.length + 1) 0 ((i64s (List.take k ps)).length / 1 + 1) ((i64s (List.take k ps)).length / 1 + 1), .mp (h.length + 1), .int .i64 0] .tight) rfl) (fun b e => by simp [CV.blk] at e; omega)
        simpa using this
      · intro b e
        have := kp.len
        simp [CV.blk] at e; omega
  · exact Keep.app _ _ _
  · simp
  · rw [show h ++ [Obj.arr [x, y, tv] .tight, Obj.map [] 0, Obj.arr [.nils, .mp (h.length + 1), .int .i64 0] .tight] = (h ++ [Obj.arr [x, y, tv] .tight, Obj.map [] 0]) ++ [Obj.arr [.nils, .mp (h.length + 1), .int .i64 0] .tight] by simp]
    rw [show h.length + 1 + 1 = (h ++ [Obj.arr [x, y, tv] .tight, Obj.map [] 0]).length by simp]
    simp
  · simp
end Go.Cl
