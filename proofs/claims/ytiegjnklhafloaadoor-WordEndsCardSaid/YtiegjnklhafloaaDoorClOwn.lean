/-
  Slices that are one's own, of whatever make: appended to, written.
-/
import Derived.Test.YtiegjnklhafloaaDoorClArg
namespace Go.Cl
open Go
set_option linter.unusedSimpArgs false
set_option linter.unusedVariables false

def Mine (h : Heap) (esz : Nat) (v : CV) (l : List CV) : Prop :=
  (v = .nils ∧ l = []) ∨ ∃ b n st, v = .sl b 0 n n ∧ l.length = n * esz ∧ (st = .tight ∨ st = .loose esz) ∧ h[b]? = some (.arr l st)

theorem Grown.mine {h : Heap} {esz : Nat} {v : CV} {l : List CV} (g : Grown h esz v l) : Mine h esz v l := by
  rcases g with g | ⟨b, n, h1, h2, _, h3⟩
  · exact .inl g
  · exact .inr ⟨b, n, _, h1, h2, .inr rfl, h3⟩

theorem Mine.keep {S : Nat → Prop} {h h' : Heap} {esz : Nat} {v : CV} {l : List CV} (g : Mine h esz v l) (k : Keep S h h') (hS : ∀ b, v.blk = some b → ¬ S b) : Mine h' esz v l := by
  rcases g with g | ⟨b, n, st, rfl, h1, h2, h3⟩
  · exact .inl g
  · exact .inr ⟨b, n, st, rfl, h1, h2, k.at h3 (hS b rfl)⟩

theorem Mine.read {h : Heap} {esz : Nat} {v : CV} {l : List CV} (g : Mine h esz v l) : Read h esz v l := by
  rcases g with g | ⟨b, n, st, rfl, h1, h2, h3⟩
  · exact .inl g
  · exact .inr ⟨b, 0, n, n, l, st, rfl, h1, h3, by omega, by simp [← h1]⟩

theorem Read.spread {h : Heap} {esz : Nat} {v : CV} {l : List CV} (r : Read h esz v l) (he : 0 < esz) : Cl.spread h esz v = some (l.length / esz, l) := by
  rcases r with ⟨rfl, rfl⟩ | ⟨b, o, n, c, cs, st, rfl, h1, h2, h3, h4⟩
  · simp [Cl.spread]
  · simp only [Cl.spread, cellsAt, h2, h3, if_true, ← h4]
    rw [h1, Nat.mul_div_cancel _ he]

/-- more behind it: perhaps nothing -/
theorem OV_more {h : Heap} {esz : Nat} {v : CV} {l ys : List CV} {k n : Nat} {K : CV × Heap → Prop} (g : Mine h esz v l) (hn : l.length = n * esz) (hy : ys.length = k * esz) (hs : ys.all CV.scalar = true) (hbig : n ≤ big) (hkb : k ≤ big) (hesz : 0 < esz)
    (kk : ∀ v' h', Mine h' esz v' (l ++ ys) → Keep (fun b => v.blk = some b) h h' → (∀ b, v'.blk = some b → v.blk = some b ∨ h.length ≤ b) → K (v', h')) :
    OV (appendTo h esz v k ys) K := by
  have hkb' : ¬ (k > big ∨ ys.all CV.scalar = false) := by rw [hs]; simp; exact hkb
  by_cases hk : k = 0
  · subst hk
    have hys : ys = [] := List.length_eq_zero_iff.1 (by simpa using hy)
    subst hys
    rw [List.append_nil] at kk
    rcases g with ⟨rfl, rfl⟩ | ⟨b, m, st, rfl, h1, h2, h3⟩
    · simp only [appendTo]
      rw [if_neg hkb']
      simp
      exact kk _ _ (.inl ⟨rfl, rfl⟩) (Keep.refl _ _) (by simp [CV.blk])
    · have hm : m = n := Nat.eq_of_mul_eq_mul_right hesz (h1.symm.trans hn)
      subst hm
      simp only [appendTo]
      rw [if_neg hkb', if_neg (by omega)]
      simp
      exact kk _ _ (.inr ⟨b, m, st, rfl, h1, h2, h3⟩) (Keep.refl _ _) (fun b' hb => .inl hb)
  · rcases g with ⟨rfl, rfl⟩ | ⟨b, m, st, rfl, h1, h2, h3⟩
    · simp only [appendTo]
      rw [if_neg hkb', if_neg hk]
      simp
      refine kk _ _ (.inr ⟨h.length, k, .loose esz, rfl, by simpa using hy, .inr rfl, by simp⟩) (Keep.app _ _ _) (by simp [CV.blk])
    · have hm : m = n := Nat.eq_of_mul_eq_mul_right hesz (h1.symm.trans hn)
      subst hm
      have hst : st ≠ .ro := by rcases h2 with rfl | rfl <;> simp
      have hkl : (kill h b).length = h.length := by unfold kill; split <;> simp
      have hkeep : Keep (fun c => (CV.sl b 0 m m).blk = some c) h (kill h b ++ [.arr (l ++ ys) (.loose esz)]) := by
        refine ⟨by simp [hkl], fun c hc hne => ?_⟩
        have hcb : b ≠ c := fun e => hne (by simp [CV.blk, e])
        rw [List.getElem?_append_left (by rw [hkl]; exact hc)]
        unfold kill
        split
        · exact List.getElem?_set_ne hcb
        · rfl
      simp only [appendTo]
      rw [if_neg hkb', if_neg (by omega), if_neg (by omega), if_neg (by omega)]
      simp only [h3]
      rw [if_pos ⟨hst, h2, by omega, by omega⟩]
      simp only [OV_some, Nat.zero_add, List.drop_zero]
      rw [show l.take (m * esz) = l by rw [← h1, List.take_length]]
      refine kk _ _ (.inr ⟨h.length, m + k, .loose esz, rfl, by rw [List.length_append, h1, hy, Nat.add_mul], .inr rfl, ?_⟩) hkeep (by simp [CV.blk])
      rw [← hkl]; exact get_new

end Go.Cl
