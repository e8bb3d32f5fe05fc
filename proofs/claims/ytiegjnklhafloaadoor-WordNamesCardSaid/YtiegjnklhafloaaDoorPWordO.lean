/-
  Layer 4, plain: the order of numbers and of their words.
-/
import Derived.Test.YtiegjnklhafloaaDoorPWordD
import Derived.Test.YtiegjnklhafloaaDoorCl0
namespace Go.Cl
open Go
set_option linter.unusedSimpArgs false
set_option linter.unusedVariables false

theorem dval_lt : ∀ (t : List UInt8) (a : Nat), t.all isDig = true → dval a t < (a + 1) * 10 ^ t.length
  | [], a, _ => by rw [dval_nil]; simp
  | c :: r, a, hd => by
    simp only [List.all_cons, Bool.and_eq_true, isDig, decide_eq_true_eq] at hd
    have ih := dval_lt r (a * 10 + (c.toNat - 48)) hd.2
    rw [dval_cons]
    refine Nat.lt_of_lt_of_le ih ?_
    rw [List.length_cons, Nat.pow_succ, ← Nat.mul_assoc, Nat.mul_right_comm]
    refine Nat.mul_le_mul_right _ (by omega)

theorem dval_le : ∀ (t : List UInt8) (a : Nat), a * 10 ^ t.length ≤ dval a t
  | [], a => by rw [dval_nil]; simp
  | c :: r, a => by
    have ih := dval_le r (a * 10 + (c.toNat - 48))
    rw [dval_cons]
    refine Nat.le_trans ?_ ih
    rw [List.length_cons, Nat.pow_succ, ← Nat.mul_assoc, Nat.mul_right_comm]
    refine Nat.mul_le_mul_right _ (by omega)

theorem less_dval : ∀ (s t : List UInt8) (a : Nat), s.length = t.length → s.all isDig = true → t.all isDig = true → bytesLess s t = decide (dval a s < dval a t)
  | [], [], a, _, _, _ => by simp [bytesLess]
  | [], _ :: _, _, h, _, _ => by simp at h
  | _ :: _, [], _, h, _, _ => by simp at h
  | c :: s, d :: t, a, h, hs, ht => by
    simp only [List.all_cons, Bool.and_eq_true, isDig, decide_eq_true_eq] at hs ht
    have hl : s.length = t.length := by simpa using h
    rw [dval_cons, dval_cons]
    have hpos : 0 < 10 ^ t.length := Nat.pow_pos (by decide)
    by_cases hcd : c = d
    · subst hcd
      have ih := less_dval s t (a * 10 + (c.toNat - 48)) hl hs.2 ht.2
      simp [bytesLess, ih]
    · have hne : c.toNat ≠ d.toNat := fun e => hcd (UInt8.toNat.inj e)
      have s1 := dval_lt s (a * 10 + (c.toNat - 48)) hs.2
      have s2 := dval_le s (a * 10 + (c.toNat - 48))
      have t1 := dval_lt t (a * 10 + (d.toNat - 48)) ht.2
      have t2 := dval_le t (a * 10 + (d.toNat - 48))
      rw [hl] at s1 s2
      by_cases hlt : c.toNat < d.toNat
      · have hm : (a * 10 + (c.toNat - 48) + 1) * 10 ^ t.length ≤ (a * 10 + (d.toNat - 48)) * 10 ^ t.length := Nat.mul_le_mul_right _ (by omega)
        have : dval (a * 10 + (c.toNat - 48)) s < dval (a * 10 + (d.toNat - 48)) t := by omega
        have hl8 : c < d := hlt
        simp [bytesLess, hl8, this]
      · have hm : (a * 10 + (d.toNat - 48) + 1) * 10 ^ t.length ≤ (a * 10 + (c.toNat - 48)) * 10 ^ t.length := Nat.mul_le_mul_right _ (by omega)
        have : ¬ dval (a * 10 + (c.toNat - 48)) s < dval (a * 10 + (d.toNat - 48)) t := by omega
        have hl8 : ¬ c < d := fun h => hlt h
        simp [bytesLess, hl8, this, hcd]

theorem dec_upper (u : Nat) : u < 10 ^ (Lib.decDigits u).length := by
  have := dval_lt (Lib.decDigits u) 0 (dec_dig u)
  rw [dval_dec] at this
  simpa using this

theorem dec_lower {u : Nat} (h : 1 ≤ u) : 10 ^ ((Lib.decDigits u).length - 1) ≤ u := by
  have hh := dec_head h
  have hd := dec_dig u
  have hv := dval_dec u
  cases hD : Lib.decDigits u with
  | nil => exact absurd hD (dec_ne u)
  | cons c r =>
    rw [hD] at hh hd hv
    simp only [List.all_cons, Bool.and_eq_true, isDig, decide_eq_true_eq] at hd
    have hc : c.toNat ≠ 48 := fun e => hh (by simp; apply UInt8.toNat.inj; simpa using e)
    rw [dval_cons] at hv
    have := dval_le r (0 * 10 + (c.toNat - 48))
    rw [hv] at this
    simp only [List.length_cons, Nat.add_sub_cancel]
    refine Nat.le_trans ?_ this
    conv => lhs; rw [← Nat.one_mul (10 ^ r.length)]
    exact Nat.mul_le_mul_right _ (by omega)

theorem dec_longer {a b : Nat} (h : (Lib.decDigits a).length < (Lib.decDigits b).length) : a < b := by
  have ha := dec_upper a
  have hpos := List.length_pos_iff.2 (dec_ne a)
  by_cases hb : b = 0
  · subst hb
    rw [dec_small (u := 0) (by omega)] at h
    simp only [List.length_cons, List.length_nil] at h; omega
  · have hl := dec_lower (u := b) (by omega)
    have : 10 ^ (Lib.decDigits a).length ≤ 10 ^ ((Lib.decDigits b).length - 1) := Nat.pow_le_pow_right (by decide) (by omega)
    omega

theorem dec_order {a b : Nat} (h : (Lib.decDigits a).length = (Lib.decDigits b).length) : bytesLess (Lib.decDigits a) (Lib.decDigits b) = decide (a < b) := by
  rw [less_dval _ _ 0 h (dec_dig a) (dec_dig b), dval_dec, dval_dec]
theorem dec_inj {a b : Nat} : Lib.decDigits a = Lib.decDigits b ↔ a = b :=
  ⟨fun h => by have := congrArg (dval 0) h; rwa [dval_dec, dval_dec] at this, fun h => by rw [h]⟩

end Go.Cl
