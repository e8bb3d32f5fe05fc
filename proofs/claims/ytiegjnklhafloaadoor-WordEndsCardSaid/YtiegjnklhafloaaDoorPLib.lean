/-
  Plain functions that stand for the library's: a text cut at a byte, a number's digits. No program here.
-/
import Derived.Lib.SplitLaws
import Derived.Lib.ItoaLen
import Derived.Lib.SlTrimSet
import Derived.Lib.ParseIntBCases
import Derived.Lib.ParseIntBTie
namespace Go.Cl
open Go

/-- a text cut at each of a byte -/
def splitC (c : UInt8) : List UInt8 → List (List UInt8)
  | [] => [[]]
  | b :: l => if b == c then [] :: splitC c l else match splitC c l with
    | [] => [[b]]
    | w :: ws => (b :: w) :: ws

theorem splitC_ne (c : UInt8) (l : List UInt8) : splitC c l ≠ [] := by
  cases l with
  | nil => simp [splitC]
  | cons b l =>
    unfold splitC
    by_cases h : b == c
    · simp [h]
    · simp only [h]
      cases splitC c l <;> simp

theorem splitC_none {c : UInt8} : ∀ {l : List UInt8}, (∀ k : Nat, l[k]? ≠ some c) → splitC c l = [l]
  | [], _ => rfl
  | b :: l, h => by
    have hb : (b == c) = false := by
      have := h 0
      simp at this
      simpa using this
    have ih := splitC_none (l := l) fun k => by simpa using h (k + 1)
    simp [splitC, hb, ih]

theorem splitC_at {c : UInt8} : ∀ {l : List UInt8} {i : Nat}, l[i]? = some c → (∀ k, k < i → l[k]? ≠ some c) → splitC c l = l.take i :: splitC c (l.drop (i + 1))
  | [], i, h, _ => by simp at h
  | b :: l, 0, h, _ => by
    simp at h
    subst h
    simp [splitC]
  | b :: l, i + 1, h, k => by
    have hb : (b == c) = false := by
      have := k 0 (by omega)
      simp at this
      simpa using this
    have ih := splitC_at (l := l) (i := i) (by simpa using h) fun j hj => by simpa using k (j + 1) (by omega)
    simp [splitC, hb, ih]

theorem splitK_one (c : UInt8) : ∀ (n : Nat) (l : List UInt8), l.length ≤ n → Lib.splitK [c] 0 (Lib.count l [c]) l = splitC c l
  | n, l, hn => by
    by_cases hm : Lib.index l [c] = -1
    · rw [Lib.count_miss hm]
      rw [Lib.index_one] at hm
      rw [splitC_none (Lib.indexByte_none hm)]
      rfl
    · have h0 : 0 ≤ Lib.index l [c] := by
        have := Lib.indexByte_ge l c
        rw [Lib.index_one] at hm ⊢
        omega
      obtain ⟨i, hi⟩ := Int.eq_ofNat_of_zero_le h0
      have hi' := hi
      rw [Lib.index_one] at hi'
      obtain ⟨h1, h2⟩ := Lib.indexByte_some hi'
      have hlt : i < l.length := by
        rcases Nat.lt_or_ge i l.length with g | g
        · exact g
        · simp [List.getElem?_eq_none g] at h1
      rw [Lib.count_hit (by simp) hi, Nat.add_comm]
      match n, hn with
      | 0, hn => omega
      | n + 1, hn =>
        have hne : ¬ (((i : Nat) : Int) == -1) = true := by simp
        rw [Lib.splitK, hi, if_neg hne, splitC_at h1 h2]
        congr 1
        simpa using splitK_one c n (l.drop (i + 1)) (by simp; omega)

/-- base-10 digits, with a bound on how many -/
def digs : Nat → Nat → List UInt8
  | 0, _ => []
  | f + 1, u => if u < 10 then [UInt8.ofNat (48 + u)] else digs f (u / 10) ++ [UInt8.ofNat (48 + u % 10)]

theorem digs_eq : ∀ (f u : Nat), u < 10 ^ f → digs f u = Lib.decDigits u ∨ f = 0
  | 0, _, _ => .inr rfl
  | f + 1, u, h => by
    left
    unfold digs
    rw [Lib.decDigits]
    by_cases hu : u < 10
    · simp [hu]
    · have h' : u / 10 < 10 ^ f := by rw [Nat.pow_succ] at h; omega
      rcases digs_eq f (u / 10) h' with e | rfl
      · simp [hu, e]
      · simp at h'; omega

def itoa (n : Int) : List UInt8 := if n < 0 then 45 :: digs 20 n.natAbs else digs 20 n.toNat

theorem itoa_eq {n : Int} (h0 : -9223372036854775808 ≤ n) (h1 : n ≤ 9223372036854775807) : itoa n = Lib.itoa n := by
  unfold itoa Lib.itoa
  split
  · rcases digs_eq 20 n.natAbs (by omega) with e | e
    · rw [e]
    · omega
  · rcases digs_eq 20 n.toNat (by omega) with e | e
    · rw [e]
    · omega

theorem splitB_lists (c : UInt8) (s : ByteArray) : (Lib.splitB ⟨#[c]⟩ 0 (Lib.countB s ⟨#[c]⟩) s).map (·.data.toList) = splitC c s.data.toList := by
  rw [Lib.splitB_data]
  exact splitK_one c _ _ (Nat.le_refl _)

end Go.Cl
