/-
  Layer 4, plain: lines, words, numbers, names. No program here.
-/
import Derived.Test.YtiegjnklhafloaaDoorPLib
namespace Go.Cl
open Go
set_option linter.unusedSimpArgs false
set_option linter.unusedVariables false

def isLow (b : UInt8) : Bool := decide (97 ≤ b.toNat) && decide (b.toNat ≤ 122)
def isDig (b : UInt8) : Bool := decide (48 ≤ b.toNat) && decide (b.toNat ≤ 57)
def isSeen (b : UInt8) : Bool := decide (33 ≤ b.toNat) && decide (b.toNat ≤ 126)

def lows : List UInt8 := [97, 98, 99, 100, 101, 102, 103, 104, 105, 106, 107, 108, 109, 110, 111, 112, 113, 114, 115, 116, 117, 118, 119, 120, 121, 122]
def digits : List UInt8 := [48, 49, 50, 51, 52, 53, 54, 55, 56, 57]

theorem u8_forall {p : UInt8 → Prop} (h : ∀ n : Fin 256, p (UInt8.ofNat n.val)) (b : UInt8) : p b := by
  have := h ⟨b.toNat, b.toNat_lt⟩
  simpa using this

theorem lows_has (b : UInt8) : lows.contains b = isLow b := by
  revert b
  exact u8_forall (by decide +kernel)
theorem digits_has (b : UInt8) : digits.contains b = isDig b := by
  revert b
  exact u8_forall (by decide +kernel)

theorem dropWhile_nil {α : Type} {p : α → Bool} : ∀ {l : List α}, l.dropWhile p = [] ↔ l.all p = true
  | [] => by simp
  | b :: l => by
    by_cases h : p b = true
    · simp [List.dropWhile, h, dropWhile_nil (l := l)]
    · have h' : p b = false := by simpa using h
      simp [List.dropWhile, h']

/-- nothing is left: all are of the set -/
theorem trimS_nil {l cs : List UInt8} : Lib.trimS l cs = [] ↔ l.all (fun b => cs.contains b) = true := by
  have mem : ∀ (b : UInt8), b ∈ (l.reverse.dropWhile (cs.contains ·)) → b ∈ l := fun b hb => by
    have := (List.dropWhile_sublist (l := l.reverse) (cs.contains ·)).subset hb
    simpa using this
  unfold Lib.trimS Lib.trimLeftS Lib.trimRightS
  rw [dropWhile_nil]
  constructor
  · intro h
    have h2 : ∀ b ∈ l.reverse.dropWhile (cs.contains ·), cs.contains b = true := fun b hb => by
      have := List.all_eq_true.1 h b (by simpa using hb)
      exact this
    have h3 : l.reverse.dropWhile (cs.contains ·) = [] := by
      cases hd : l.reverse.dropWhile (cs.contains ·) with
      | nil => rfl
      | cons x t =>
        have hx := List.head?_dropWhile_not (cs.contains ·) l.reverse
        rw [hd] at hx
        simp at hx
        have := h2 x (by rw [hd]; simp)
        simp at this
        exact absurd this hx
    rw [dropWhile_nil] at h3
    simpa using h3
  · intro h
    have h3 : l.reverse.dropWhile (cs.contains ·) = [] := by rw [dropWhile_nil]; simpa using h
    rw [h3]; rfl

/-- may something be called so -/
def nameP (s : List UInt8) : Bool := decide (1 ≤ s.length) && decide (s.length ≤ 8) && s.all isLow

theorem trim_lows {s : List UInt8} : (Lib.trimS s lows == ([] : List UInt8)) = s.all isLow := by
  have h : s.all (fun b => lows.contains b) = s.all isLow := by congr 1; funext b; exact lows_has b
  by_cases hc : s.all isLow = true
  · rw [hc, beq_iff_eq, trimS_nil, h, hc]
  · have : ¬ Lib.trimS s lows = [] := fun e => hc (by rw [← h]; exact trimS_nil.1 e)
    have hf : s.all isLow = false := by simpa using hc
    rw [hf]; simpa using this

theorem trim_digits {s : List UInt8} : (Lib.trimS s digits == ([] : List UInt8)) = s.all isDig := by
  have h : s.all (fun b => digits.contains b) = s.all isDig := by congr 1; funext b; exact digits_has b
  by_cases hc : s.all isDig = true
  · rw [hc, beq_iff_eq, trimS_nil, h, hc]
  · have : ¬ Lib.trimS s digits = [] := fun e => hc (by rw [← h]; exact trimS_nil.1 e)
    have hf : s.all isDig = false := by simpa using hc
    rw [hf]; simpa using this

theorem isEmpty_lows {s : List UInt8} : (Lib.trimS s lows).isEmpty = s.all isLow := by
  rw [← trim_lows]; cases Lib.trimS s lows <;> rfl
theorem isEmpty_digits {s : List UInt8} : (Lib.trimS s digits).isEmpty = s.all isDig := by
  rw [← trim_digits]; cases Lib.trimS s digits <;> rfl

/-- a text's lines -/
def linesP (s : List UInt8) : Option (List (List UInt8)) :=
  if s = [] then some [] else if Lib.hasSuffix s [10] then some (splitC 10 (Lib.trimSuffix s [10])) else none

/-- may a word be so -/
def wordOk (w : List UInt8) : Bool := !w.isEmpty && w.all isSeen

/-- a line's words -/
def wordsP (s : List UInt8) : Option (List (List UInt8)) :=
  if s = [] then some [] else if (splitC 32 s).all wordOk then some (splitC 32 s) else none

def errOf (x : Option (List (List UInt8))) : Int := match x with | some _ => 0 | none => 2

/-- how a number is read: which, or why not -/
def numP (s : List UInt8) : Int × Int :=
  let t := Lib.trimPrefix s [45]
  if (t == [] || !t.all isDig || (decide (1 < t.length) && t[0]? == some 48) || s == [45, 48]) then (0, 2)
  else match Lib.parseIntB 64 s with
    | .ok v => (v, 0)
    | _ => (0, 14)

/-! ### digits -/

theorem dec_small {u : Nat} (h : u < 10) : Lib.decDigits u = [UInt8.ofNat (48 + u)] := by rw [Lib.decDigits]; simp [h]
theorem dec_step {u : Nat} (h : ¬ u < 10) : Lib.decDigits u = Lib.decDigits (u / 10) ++ [UInt8.ofNat (48 + u % 10)] := by rw [Lib.decDigits]; simp [h]

theorem digs_len : ∀ (f u : Nat), (digs f u).length ≤ f
  | 0, _ => by simp [digs]
  | f + 1, u => by
    unfold digs
    split
    · simp
    · have := digs_len f (u / 10)
      simp; omega

theorem dec_len {u : Nat} (h : u < 10 ^ 20) : (Lib.decDigits u).length ≤ 20 := by
  rcases digs_eq 20 u h with e | e
  · rw [← e]; exact digs_len 20 u
  · omega

theorem itoa_len (n : Int) : (itoa n).length ≤ 21 := by
  unfold itoa
  split
  · have := digs_len 20 n.natAbs; simp; omega
  · have := digs_len 20 n.toNat; omega

theorem itoa_pos {n : Nat} (h : n ≤ 9223372036854775807) : itoa (n : Int) = Lib.decDigits n := by
  rw [itoa_eq (by omega) (by omega)]
  unfold Lib.itoa
  rw [if_neg (by omega)]; simp
theorem itoa_neg {n : Nat} (h0 : 1 ≤ n) (h : n ≤ 9223372036854775808) : itoa (-(n : Int)) = 45 :: Lib.decDigits n := by
  rw [itoa_eq (by omega) (by omega)]
  unfold Lib.itoa
  rw [if_pos (by omega)]; simp

/-- what is still to be put ahead -/
def ahead (u : Nat) : List UInt8 := if u < 10 then [] else Lib.decDigits (u / 10)

theorem dec_ahead (u : Nat) : Lib.decDigits u = ahead u ++ [UInt8.ofNat (48 + u % 10)] := by
  unfold ahead
  by_cases h : u < 10
  · rw [dec_small h, if_pos h, Nat.mod_eq_of_lt h]; rfl
  · rw [dec_step h, if_neg h]

end Go.Cl
