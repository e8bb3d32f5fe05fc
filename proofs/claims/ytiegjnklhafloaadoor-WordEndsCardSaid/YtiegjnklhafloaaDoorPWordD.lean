/-
  Layer 4, plain: digits and numbers, there and back.
-/
import Derived.Test.YtiegjnklhafloaaDoorPWordN
namespace Go.Cl
open Go
set_option linter.unusedSimpArgs false
set_option linter.unusedVariables false

theorem dval_snoc {a : Nat} {t : List UInt8} {c : UInt8} : dval a (t ++ [c]) = dval a t * 10 + (c.toNat - 48) := by
  simp only [dval, List.foldl_append, List.foldl_cons, List.foldl_nil]

theorem dval_mono {t : List UInt8} {i : Nat} : dval 0 (t.take i) ≤ dval 0 t := by
  have : t = t.take i ++ t.drop i := (List.take_append_drop i t).symm
  have e : dval 0 t = dval (dval 0 (t.take i)) (t.drop i) := by
    conv => lhs; rw [this]
    simp only [dval, List.foldl_append]
  rw [e]; exact dval_ge _ _

theorem digit_toNat {d : Nat} (h : d < 10) : (UInt8.ofNat (48 + d)).toNat = 48 + d := by
  simp; omega

theorem dec_dig (u : Nat) : (Lib.decDigits u).all isDig = true := by
  induction u using Nat.strongRecOn with
  | _ u ih =>
    by_cases h : u < 10
    · rw [dec_small h]
      simp only [List.all_cons, List.all_nil, isDig, digit_toNat h]
      simp; omega
    · rw [dec_step h, List.all_append, ih (u / 10) (by omega)]
      simp only [List.all_cons, List.all_nil, isDig, digit_toNat (show u % 10 < 10 by omega)]
      simp; omega

theorem dec_ne (u : Nat) : Lib.decDigits u ≠ [] := by
  by_cases h : u < 10
  · rw [dec_small h]; simp
  · rw [dec_step h]; simp

theorem dval_dec (u : Nat) : dval 0 (Lib.decDigits u) = u := by
  induction u using Nat.strongRecOn with
  | _ u ih =>
    by_cases h : u < 10
    · rw [dec_small h, dval_cons, dval_nil, digit_toNat h]; omega
    · rw [dec_step h, dval_snoc, ih (u / 10) (by omega), digit_toNat (show u % 10 < 10 by omega)]; omega

theorem dec_head {u : Nat} (h : 1 ≤ u) : (Lib.decDigits u)[0]? ≠ some 48 := by
  induction u using Nat.strongRecOn with
  | _ u ih =>
    by_cases h10 : u < 10
    · rw [dec_small h10]
      simp only [List.getElem?_cons_zero]
      intro e
      have := congrArg UInt8.toNat (Option.some.inj e)
      rw [digit_toNat h10] at this
      simp at this; omega
    · rw [dec_step h10, List.getElem?_append_left (List.length_pos_iff.2 (dec_ne _))]
      exact ih (u / 10) (by omega) (by omega)

theorem dval_pos : ∀ {t : List UInt8}, t.all isDig = true → t ≠ [] → t[0]? ≠ some 48 → 1 ≤ dval 0 t
  | [], _, h, _ => absurd rfl h
  | c :: r, hd, _, hz => by
    simp only [List.all_cons, Bool.and_eq_true, isDig, decide_eq_true_eq] at hd
    have hge := dval_ge r (0 * 10 + (c.toNat - 48))
    rw [dval_cons]
    have : c.toNat ≠ 48 := fun e => hz (by simp; apply UInt8.toNat.inj; simpa using e)
    omega

/-- digits without a 0 ahead are their number's -/
theorem dec_dval : ∀ (n : Nat) (t : List UInt8), t.length ≤ n → t.all isDig = true → t ≠ [] → (t[0]? = some 48 → t.length = 1) → Lib.decDigits (dval 0 t) = t
  | 0, t, hl, _, h, _ => absurd (List.length_eq_zero_iff.1 (by omega)) h
  | n + 1, t, hl, hd, h, hz => by
    obtain ⟨r, c, rfl⟩ : ∃ r c, t = r ++ [c] := ⟨t.dropLast, t.getLast h, (List.dropLast_concat_getLast h).symm⟩
    rw [List.all_append, Bool.and_eq_true] at hd
    have hc := hd.2
    simp only [List.all_cons, List.all_nil, Bool.and_true, isDig, Bool.and_eq_true, decide_eq_true_eq] at hc
    have hcc : UInt8.ofNat (48 + (c.toNat - 48)) = c := by
      apply UInt8.toNat.inj
      rw [digit_toNat (by omega)]; omega
    rw [dval_snoc]
    by_cases hr : r = []
    · subst hr
      rw [dval_nil, dec_small (by omega)]
      simp only [Nat.zero_mul, Nat.zero_add, List.nil_append]
      rw [hcc]
    · have hrl := List.length_pos_iff.2 hr
      have hz' : r[0]? ≠ some 48 := fun e => by
        have := hz (by rw [List.getElem?_append_left hrl]; exact e)
        rw [List.length_append, List.length_singleton] at this; omega
      have hp := dval_pos hd.1 hr hz'
      rw [dec_step (by omega), show (dval 0 r * 10 + (c.toNat - 48)) / 10 = dval 0 r by omega, show (dval 0 r * 10 + (c.toNat - 48)) % 10 = c.toNat - 48 by omega, hcc,
        dec_dval n r (by simp at hl; omega) hd.1 hr fun e => absurd e hz']

/-- a text is read as its number -/
theorem numP_itoa {n : Int} (h0 : -9223372036854775808 ≤ n) (h1 : n ≤ 9223372036854775807) : numP (itoa n) = (n, 0) := by
  by_cases hn : n < 0
  · obtain ⟨u, rfl⟩ : ∃ u : Nat, n = -(u : Int) := ⟨n.natAbs, by omega⟩
    have hh := dec_head (u := u) (by omega)
    rw [itoa_neg (by omega) (by omega), show (45 :: Lib.decDigits u) = signed true (Lib.decDigits u) by simp [signed], numP_good (dec_ne u) (dec_dig u) (fun x => hh x.1), dval_dec]
    have : u ≤ 9223372036854775808 := by omega
    simp [numV, this]
  · obtain ⟨u, rfl⟩ : ∃ u : Nat, n = u := ⟨n.toNat, by omega⟩
    rw [itoa_pos (by omega), show Lib.decDigits u = signed false (Lib.decDigits u) by simp [signed], numP_good (dec_ne u) (dec_dig u) ?_, dval_dec]
    · have : u < 9223372036854775808 := by omega
      simp [numV, this]
    · rintro ⟨x, y | y⟩
      · by_cases h0 : u = 0
        · subst h0
          rw [dec_small (by omega)] at y; simp at y
        · exact dec_head (u := u) (by omega) x
      · cases y

/-- what is read as a number is its text -/
theorem itoa_numP {s : List UInt8} (h : (numP s).2 = 0) : itoa (numP s).1 = s := by
  have key : ∀ (minus : Bool) (t : List UInt8), s = signed minus t → (minus = false → t[0]? ≠ some 45) → itoa (numP s).1 = s := by
    intro minus t hst hm
    by_cases k : t = [] ∨ t.all isDig = false ∨ (t[0]? = some 48 ∧ (1 < t.length ∨ minus = true))
    · rw [hst, numP_form hm k] at h; cases h
    · have k1 : t ≠ [] := fun e => k (.inl e)
      have k2 : t.all isDig = true := by
        cases e : t.all isDig with
        | true => rfl
        | false => exact absurd (.inr (.inl e)) k
      have k3 : ¬ (t[0]? = some 48 ∧ (1 < t.length ∨ minus = true)) := fun e => k (.inr (.inr e))
      have hg := numP_good (minus := minus) k1 k2 k3
      rw [← hst] at hg
      have hpos := List.length_pos_iff.2 k1
      have hd := dec_dval t.length t (Nat.le_refl _) k2 k1 (fun e => by
        by_cases hl : 1 < t.length
        · exact absurd ⟨e, .inl hl⟩ k3
        · omega)
      cases minus with
      | true =>
        have h48 : t[0]? ≠ some 48 := fun e => k3 ⟨e, .inr rfl⟩
        have hp := dval_pos k2 k1 h48
        unfold numV at hg
        simp only [if_true] at hg
        split at hg
        · rename_i hle
          rw [hg, itoa_neg hp hle, hd, hst]; simp [signed]
        · rw [hg] at h; cases h
      | false =>
        unfold numV at hg
        simp only [Bool.false_eq_true, if_false] at hg
        split at hg
        · rename_i hle
          rw [hg, itoa_pos (by omega), hd, hst]; simp [signed]
        · rw [hg] at h; cases h
  cases s with
  | nil => exact key false [] (by simp [signed]) (by simp)
  | cons b t =>
    by_cases hb : b = 45
    · subst hb; exact key true t (by simp [signed]) (by simp)
    · exact key false (b :: t) (by simp [signed]) (by simpa using hb)

theorem numP_in (s : List UInt8) : -9223372036854775808 ≤ (numP s).1 ∧ (numP s).1 ≤ 9223372036854775807 := by
  cases hp : Lib.parseIntB 64 s with
  | ok v =>
    have hb := Lib.parseIntB_bounds hp
    simp at hb
    simp only [numP, hp]
    split
    · decide
    · exact ⟨hb.1, by show v ≤ _; omega⟩
  | range => simp only [numP, hp]; split <;> decide
  | _ => simp only [numP, hp]; split <;> decide

theorem dec_len19 {u : Nat} (h : u < 10 ^ 19) : (Lib.decDigits u).length ≤ 19 := by
  rcases digs_eq 19 u h with e | e
  · rw [← e]; exact digs_len 19 u
  · omega

theorem itoa_len20 {n : Int} (h0 : -9223372036854775808 ≤ n) (h1 : n ≤ 9223372036854775807) : 1 ≤ (itoa n).length ∧ (itoa n).length ≤ 20 := by
  by_cases hn : n < 0
  · obtain ⟨u, rfl⟩ : ∃ u : Nat, n = -(u : Int) := ⟨n.natAbs, by omega⟩
    rw [itoa_neg (by omega) (by omega)]
    have := dec_len19 (u := u) (by omega)
    simp; omega
  · obtain ⟨u, rfl⟩ : ∃ u : Nat, n = u := ⟨n.toNat, by omega⟩
    rw [itoa_pos (by omega)]
    have := dec_len19 (u := u) (by omega)
    have := List.length_pos_iff.2 (dec_ne u)
    omega

end Go.Cl
