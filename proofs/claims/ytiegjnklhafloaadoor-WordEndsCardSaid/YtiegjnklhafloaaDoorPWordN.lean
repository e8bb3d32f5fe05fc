/-
  Layer 4, plain: how a number is read.
-/
import Derived.Test.YtiegjnklhafloaaDoorPWordS
namespace Go.Cl
open Go
set_option linter.unusedSimpArgs false
set_option linter.unusedVariables false

/-- what digits spell behind others -/
def dval (acc : Nat) (t : List UInt8) : Nat := t.foldl (fun a c => a * 10 + (c.toNat - 48)) acc

theorem dval_nil {acc : Nat} : dval acc [] = acc := rfl
theorem dval_cons {acc : Nat} {c : UInt8} {r : List UInt8} : dval acc (c :: r) = dval (acc * 10 + (c.toNat - 48)) r := by simp only [dval, List.foldl_cons]

theorem dval_ge : ∀ (t : List UInt8) (acc : Nat), acc ≤ dval acc t
  | [], acc => by rw [dval_nil]; exact Nat.le_refl acc
  | c :: r, acc => by
    have := dval_ge r (acc * 10 + (c.toNat - 48))
    rw [dval_cons]
    omega

theorem parseM_nil {M acc : Nat} : Lib.parseUintM M acc [] = .ok acc := by simp [Lib.parseUintM]
theorem parseM_cons {M acc : Nat} {c : UInt8} {r : List UInt8} (hc : 48 ≤ c.toNat ∧ c.toNat ≤ 57) : Lib.parseUintM M acc (c :: r) =
    if 1844674407370955162 ≤ acc then .range else if M < acc * 10 + (c.toNat - 48) then .range else Lib.parseUintM M (acc * 10 + (c.toNat - 48)) r := by
  simp only [Lib.parseUintM, if_pos hc]

theorem parseM (M : Nat) (hM : M = 18446744073709551615) : ∀ (t : List UInt8) (acc v : Nat), t.all isDig = true → acc ≤ M → dval acc t = v →
    Lib.parseUintM M acc t = if v ≤ M then .ok v else .range
  | [], acc, v, _, ha, hv => by
    rw [dval_nil] at hv
    subst hv
    rw [parseM_nil, if_pos ha]
  | c :: r, acc, v, hd, ha, hv => by
    simp only [List.all_cons, Bool.and_eq_true] at hd
    have hc := hd.1
    simp only [isDig, Bool.and_eq_true, decide_eq_true_eq] at hc
    have hge := dval_ge r (acc * 10 + (c.toNat - 48))
    rw [dval_cons] at hv
    rw [parseM_cons hc]
    rw [hv] at hge
    by_cases h1 : 1844674407370955162 ≤ acc
    · rw [if_pos h1, if_neg (by omega)]
    · rw [if_neg h1]
      by_cases h2 : M < acc * 10 + (c.toNat - 48)
      · rw [if_pos h2, if_neg (by omega)]
      · rw [if_neg h2]
        exact parseM M hM r _ v hd.2 (by omega) hv

/-- with its sign -/
def signed (minus : Bool) (t : List UInt8) : List UInt8 := if minus then 45 :: t else t

def numV (minus : Bool) (v : Nat) : Int × Int :=
  if minus then (if v ≤ 9223372036854775808 then (-(v : Int), 0) else (0, 14)) else if v < 9223372036854775808 then ((v : Int), 0) else (0, 14)

theorem trim_signed {minus : Bool} {t : List UInt8} (h : minus = false → t[0]? ≠ some 45) : Lib.trimPrefix (signed minus t) [45] = t := by
  cases minus with
  | true => simp [signed, Lib.trimPrefix, Lib.hasPrefix, List.isPrefixOf]
  | false =>
    have := h rfl
    unfold signed Lib.trimPrefix Lib.hasPrefix
    cases t with
    | nil => rfl
    | cons b t =>
      simp at this
      have hb : ((45 : UInt8) == b) = false := by
        rw [beq_eq_false_iff_ne]; exact fun e => this e.symm
      simp [List.isPrefixOf, hb]

theorem numP_form {minus : Bool} {t : List UInt8} (h : minus = false → t[0]? ≠ some 45) (k : t = [] ∨ t.all isDig = false ∨ (t[0]? = some 48 ∧ (1 < t.length ∨ minus = true))) : numP (signed minus t) = (0, 2) := by
  unfold numP
  simp only [trim_signed h]
  rw [if_pos]
  rcases k with k | k | ⟨k1, k2 | k2⟩
  · simp [k]
  · simp [k]
  · simp [k1, k2]
  · subst k2
    by_cases hl : 1 < t.length
    · simp [k1, hl]
    · cases t with
      | nil => simp at k1
      | cons b t =>
        simp at k1 hl
        subst k1
        have : t = [] := by
          cases t with
          | nil => rfl
          | cons _ _ => simp at hl
        subst this
        rfl

theorem numP_good {minus : Bool} {t : List UInt8} (h0 : t ≠ []) (hd : t.all isDig = true) (hz : ¬ (t[0]? = some 48 ∧ (1 < t.length ∨ minus = true))) : numP (signed minus t) = numV minus (dval 0 t) := by
  obtain ⟨b, r, rfl⟩ : ∃ b r, t = b :: r := by
    cases t with
    | nil => exact absurd rfl h0
    | cons b r => exact ⟨b, r, rfl⟩
  have hb : isDig b = true := by simp only [List.all_cons, Bool.and_eq_true] at hd; exact hd.1
  have hb' := hb
  simp only [isDig, Bool.and_eq_true, decide_eq_true_eq] at hb'
  have hne45 : b ≠ 45 := by rintro rfl; simp at hb'
  unfold numP
  simp only [trim_signed (minus := minus) (t := b :: r) (by simp [hne45])]
  rw [if_neg]
  · obtain ⟨v, hv⟩ : ∃ v, dval 0 (b :: r) = v := ⟨_, rfl⟩
    obtain ⟨M, hM⟩ : ∃ M, M = 2 ^ 64 - 1 := ⟨_, rfl⟩
    have hM' : M = 18446744073709551615 := hM
    have hp : Lib.parseUintB 64 (b :: r) = if v ≤ M then .ok v else .range := by
      unfold Lib.parseUintB
      rw [if_neg (by simp), ← hM]
      exact parseM M hM' _ _ _ hd (by omega) hv
    rw [hv]
    obtain ⟨C, hC⟩ : ∃ C, C = 2 ^ (64 - 1) := ⟨_, rfl⟩
    have hC' : C = 9223372036854775808 := hC
    cases minus with
    | true =>
      rw [show signed true (b :: r) = 45 :: b :: r by simp [signed], Lib.parseIntB_minus, hp, ← hC]
      by_cases h1 : v ≤ M
      · rw [if_pos h1]
        simp only [Lib.signedC, numV]
        by_cases h2 : v ≤ 9223372036854775808
        · have : ¬ C < v := by omega
          simp [h2, this]
        · have : C < v := by omega
          simp [h2, this]
      · rw [if_neg h1]
        have : ¬ v ≤ 9223372036854775808 := by omega
        simp [Lib.signedC, numV, this]
    | false =>
      rw [show signed false (b :: r) = b :: r by simp [signed], Lib.parseIntB_plain _ _ _ (by omega) (by omega), hp, ← hC]
      by_cases h1 : v ≤ M
      · rw [if_pos h1]
        simp only [Lib.signlessC, numV]
        by_cases h2 : v < 9223372036854775808
        · have : ¬ C ≤ v := by omega
          simp [h2, this]
        · have : C ≤ v := by omega
          simp [h2, this]
      · rw [if_neg h1]
        have : ¬ v < 9223372036854775808 := by omega
        simp [Lib.signlessC, numV, this]
  · intro hh
    simp only [Bool.or_eq_true, Bool.and_eq_true, Bool.not_eq_true', beq_iff_eq, decide_eq_true_eq] at hh
    rcases hh with ((hh | hh) | ⟨h1, h2⟩) | hh
    · cases hh
    · rw [hd] at hh; cases hh
    · exact hz ⟨h2, .inl h1⟩
    · cases minus with
      | false =>
        simp only [signed] at hh
        simp at hh
        exact hne45 hh.1
      | true =>
        simp only [signed] at hh
        simp at hh
        exact hz ⟨by simp [hh.1], .inr rfl⟩

end Go.Cl
