/-
  Slices with room behind them, in an array of one's own: shortened, then appended to.
-/
import Derived.Test.YtiegjnklhafloaaDoorClOwn
namespace Go.Cl
open Go
set_option linter.unusedSimpArgs false
set_option linter.unusedVariables false

variable {p : PP}

/-- an operation behind which earlier reads must read the same -/
theorem WO_re {all l : List SOper} {d : Option Nat} {op : SOp} {t : Nat} {want : Bool} {re : List Nat} {e : Env} {h : Heap} {K : Env → Heap → Prop} (hw : wantB e t want = some true)
    (w : W1 p op e h fun v h' => (∀ c, recheckB c all (e.put d v) h' re = true) ∧ WO p all l (e.put d v) h' K) : WO p all (⟨d, op, some (t, want), re⟩ :: l) e h K := by
  obtain ⟨n, v, h1, ho, hr, m, e', h', a, b⟩ := w
  refine ⟨max n m, e', h', ?_, b⟩
  simp only [evOps, evOper]
  rw [← wantB_eq, hw]
  simp only []
  rw [evOp_le (p.le (Nat.le_max_left n m)) ho]
  simp only [hr, if_true]
  exact evOps_le (p.le (Nat.le_max_right n m)) a

theorem WO_re_f {all l : List SOper} {d : Option Nat} {op : SOp} {t : Nat} {want : Bool} {re : List Nat} {e : Env} {h : Heap} {K : Env → Heap → Prop} (hw : wantB e t want = some false)
    (w : WO p all l (e.put d .undef) h K) : WO p all (⟨d, op, some (t, want), re⟩ :: l) e h K := by
  obtain ⟨m, e', h', a, b⟩ := w
  refine ⟨m, e', h', ?_, b⟩
  simp only [evOps, evOper]
  rw [← wantB_eq, hw]
  exact a

/-- a middle, where what comes behind is already set apart -/
theorem W_to {a b : SCode} {e : Env} {h : Heap} {Q : Ex → Env → Heap → Prop} (M : Env → Heap → Prop) (ha : W p a e h fun x e' h' => match x with | .normal => M e' h' | x => Q x e' h')
    (hb : ∀ e' h', M e' h' → W p b e' h' Q) : W p a e h (thenQ p b Q) := by
  refine ha.mono fun x e' h' k => ?_
  cases x with
  | normal => exact hb e' h' k
  | exit i => exact k
  | ret => exact k

theorem WO_re_n {all l : List SOper} {d : Option Nat} {op : SOp} {re : List Nat} {e : Env} {h : Heap} {K : Env → Heap → Prop}
    (w : W1 p op e h fun v h' => (∀ c, recheckB c all (e.put d v) h' re = true) ∧ WO p all l (e.put d v) h' K) : WO p all (⟨d, op, none, re⟩ :: l) e h K := by
  obtain ⟨n, v, h1, ho, hr, m, e', h', a, b⟩ := w
  refine ⟨max n m, e', h', ?_, b⟩
  simp only [evOps, evOper, wanted]
  rw [evOp_le (p.le (Nat.le_max_left n m)) ho]
  simp only [hr, if_true]
  exact evOps_le (p.le (Nat.le_max_right n m)) a

/-- the same, at a block's end -/
theorem W_toB {id : Nat} {a b : SCode} {e : Env} {h : Heap} {Q : Ex → Env → Heap → Prop} (M : Env → Heap → Prop) (ha : W p a e h (blockQ id fun x e' h' => match x with | .normal => M e' h' | x => Q x e' h'))
    (hb : ∀ e' h', M e' h' → W p b e' h' Q) : W p a e h (blockQ id (thenQ p b Q)) := by
  refine ha.mono fun x e' h' k => ?_
  cases x with
  | normal => exact hb e' h' k
  | exit i =>
    simp only [blockQ_exit] at k ⊢
    split at k
    · rename_i hi; rw [if_pos hi]; exact hb e' h' k
    · rename_i hi; rw [if_neg hi]; exact k
  | ret => exact k

def Roomy (h : Heap) (esz : Nat) (v : CV) (l : List CV) : Prop :=
  (v = .nils ∧ l = []) ∨ ∃ b o n c cs st, v = .sl b o n c ∧ l.length = n * esz ∧ n ≤ c ∧ (st = .tight ∨ st = .loose esz) ∧ h[b]? = some (.arr cs st) ∧ o + c * esz ≤ cs.length ∧ l = (cs.drop o).take (n * esz)

theorem Mine.roomy {h : Heap} {esz : Nat} {v : CV} {l : List CV} (g : Mine h esz v l) : Roomy h esz v l := by
  rcases g with g | ⟨b, n, st, rfl, h1, h2, h3⟩
  · exact .inl g
  · exact .inr ⟨b, 0, n, n, l, st, rfl, h1, Nat.le_refl _, h2, h3, by omega, by simp [← h1]⟩

theorem Roomy.read {h : Heap} {esz : Nat} {v : CV} {l : List CV} (g : Roomy h esz v l) : Read h esz v l := by
  rcases g with g | ⟨b, o, n, c, cs, st, rfl, h1, h2, h3, h4, h5, h6⟩
  · exact .inl g
  · have : n * esz ≤ c * esz := Nat.mul_le_mul_right _ h2
    exact .inr ⟨b, o, n, c, cs, st, rfl, h1, h4, by omega, h6⟩

theorem Roomy.keep {S : Nat → Prop} {h h' : Heap} {esz : Nat} {v : CV} {l : List CV} (g : Roomy h esz v l) (k : Keep S h h') (hS : ∀ b, v.blk = some b → ¬ S b) : Roomy h' esz v l := by
  rcases g with g | ⟨b, o, n, c, cs, st, rfl, h1, h2, h3, h4, h5⟩
  · exact .inl g
  · exact .inr ⟨b, o, n, c, cs, st, rfl, h1, h2, h3, k.at h4 (hS b rfl), h5⟩

/-- its front -/
theorem Roomy.cut {h : Heap} {esz : Nat} {v : CV} {l : List CV} (g : Roomy h esz v l) (he : 0 < esz) {k : IntKind} {m : Nat} (hm : m * esz ≤ l.length) :
    ∃ v', slSl h esz v none (some (.int k (m : Int))) = some (v', h) ∧ Roomy h esz v' (l.take (m * esz)) ∧ v'.blk = v.blk := by
  rcases g with ⟨rfl, rfl⟩ | ⟨b, o, n, c, cs, st, rfl, h1, h2, h3, h4, h5, h6⟩
  · have h0 : m * esz = 0 := by simpa using hm
    have : m = 0 := by
      rcases Nat.mul_eq_zero.1 h0 with h | h
      · exact h
      · omega
    subst this
    exact ⟨.nils, by simp [slSl, bound], .inl ⟨rfl, by simp⟩, rfl⟩
  · have hmn : m ≤ n := by
      rw [h1] at hm
      exact Nat.le_of_mul_le_mul_right hm he
    refine ⟨.sl b o m c, ?_, .inr ⟨b, o, m, c, cs, st, rfl, ?_, by omega, h3, h4, h5, ?_⟩, rfl⟩
    · simp only [slSl, bound]
      rw [if_neg (by omega), if_pos ⟨by omega, by omega⟩]
      simp
    · rw [List.length_take]; omega
    · rw [h6, List.take_take]; congr 1
      have := Nat.mul_le_mul_right esz hmn; omega

/-- more behind it: perhaps nothing -/
theorem OV_room {h : Heap} {esz : Nat} {v : CV} {l ys : List CV} {k n : Nat} {K : CV × Heap → Prop} (g : Roomy h esz v l) (hn : l.length = n * esz) (hy : ys.length = k * esz) (hs : ys.all CV.scalar = true) (hbig : n ≤ big) (hkb : k ≤ big) (hesz : 0 < esz)
    (kk : ∀ v' h', Roomy h' esz v' (l ++ ys) → Keep (fun b => v.blk = some b) h h' → (∀ b, v'.blk = some b → v.blk = some b ∨ h.length ≤ b) → K (v', h')) :
    OV (appendTo h esz v k ys) K := by
  have hkb' : ¬ (k > big ∨ ys.all CV.scalar = false) := by rw [hs]; simp; exact hkb
  by_cases hk : k = 0
  · subst hk
    have hys : ys = [] := List.length_eq_zero_iff.1 (by simpa using hy)
    subst hys
    rw [List.append_nil] at kk
    rcases g with ⟨rfl, rfl⟩ | ⟨b, o, m, c, cs, st, rfl, h1, h2, h3⟩
    · simp only [appendTo]
      rw [if_neg hkb']
      simp
      exact kk _ _ (.inl ⟨rfl, rfl⟩) (Keep.refl _ _) (by simp [CV.blk])
    · have hm : m = n := Nat.eq_of_mul_eq_mul_right hesz (h1.symm.trans hn)
      subst hm
      simp only [appendTo]
      rw [if_neg hkb', if_neg (by omega), if_pos ⟨trivial, h2⟩]
      simp
      exact kk _ _ (.inr ⟨b, o, m, c, cs, st, rfl, h1, h2, h3⟩) (Keep.refl _ _) (fun b' hb => .inl hb)
  · rcases g with ⟨rfl, rfl⟩ | ⟨b, o, m, c, cs, st, rfl, h1, h2, h3, h4, h5, h6⟩
    · simp only [appendTo]
      rw [if_neg hkb', if_neg hk]
      simp
      refine kk _ _ (.inr ⟨h.length, 0, k, k, ys, .loose esz, rfl, by simpa using hy, Nat.le_refl _, .inr rfl, by simp, by omega, by simp [← hy]⟩) (Keep.app _ _ _) (by simp [CV.blk])
    · have hm : m = n := Nat.eq_of_mul_eq_mul_right hesz (h1.symm.trans hn)
      subst hm
      have hst : st ≠ .ro := by rcases h3 with rfl | rfl <;> simp
      have hle := Nat.mul_le_mul_right esz h2
      simp only [appendTo]
      rw [if_neg hkb', if_neg (by omega), if_neg (by omega)]
      by_cases hroom : m + k ≤ c
      · have hle2 := Nat.mul_le_mul_right esz hroom
        rw [Nat.add_mul] at hle2
        rw [if_pos hroom]
        simp only [storeAt, h4]
        rw [if_pos ⟨hst, by omega, hs⟩]
        simp only [OV_some]
        refine kk _ _ (.inr ⟨b, o, m + k, c, _, st, rfl, by rw [List.length_append, h1, hy, Nat.add_mul], hroom, h3, get_set_self (lt_of_get h4), ?_, ?_⟩) (Keep.set _ _ rfl) (fun b' hb => .inl hb)
        · simp only [splice, List.length_append, List.length_take, List.length_drop]; omega
        · simp only [splice]
          rw [List.append_assoc, List.drop_append_of_le_length (by rw [List.length_take]; omega), List.drop_take, show o + m * esz - o = m * esz by omega, ← h6, ← List.append_assoc]
          rw [List.take_append_of_le_length (by rw [List.length_append, h1, hy, Nat.add_mul]; omega)]
          rw [List.take_of_length_le (by rw [List.length_append, h1, hy, Nat.add_mul]; omega)]
      · have hkl : (kill h b).length = h.length := by unfold kill; split <;> simp
        have hkeep : Keep (fun x => (CV.sl b o m c).blk = some x) h (kill h b ++ [.arr (l ++ ys) (.loose esz)]) := by
          refine ⟨by simp [hkl], fun x hx hne => ?_⟩
          have hcb : b ≠ x := fun e => hne (by simp [CV.blk, e])
          rw [List.getElem?_append_left (by rw [hkl]; exact hx)]
          unfold kill
          split
          · exact List.getElem?_set_ne hcb
          · rfl
        rw [if_neg hroom]
        simp only [h4]
        rw [if_pos ⟨hst, h3, by omega, by omega⟩]
        simp only [OV_some, ← h6]
        refine kk _ _ (.inr ⟨h.length, 0, m + k, m + k, l ++ ys, .loose esz, rfl, by rw [List.length_append, h1, hy, Nat.add_mul], Nat.le_refl _, .inr rfl, ?_, ?_, ?_⟩) hkeep (by simp [CV.blk])
        · rw [← hkl]; exact get_new
        · rw [List.length_append, h1, hy, Nat.add_mul]; omega
        · rw [List.drop_zero, List.take_of_length_le (by rw [List.length_append, h1, hy, Nat.add_mul]; omega)]

end Go.Cl
