/-
  Texts laid together: PLib PWord PWordS PWordN PWordD PWordJ POpV POp POpL.
-/
import Derived.Lib.SplitLaws
import Derived.Lib.ItoaLen
import Derived.Lib.SlTrimSet
import Derived.Lib.ParseIntBCases
import Derived.Lib.ParseIntBTie

namespace Go.Cl
open Go

/-- a text cut at each of a byte -/
def splitC (c : UInt8) : List UInt8 → List (List UInt8)
  | [] => [[]]
  | b :: l => if b == c then [] :: splitC c l else match splitC c l with
    | [] => [[b]]
    | w :: ws => (b :: w) :: ws

theorem splitC_ne (c : UInt8) (l : List UInt8) : splitC c l ≠ [] := by
  cases l with
  | nil => simp [splitC]
  | cons b l =>
    unfold splitC
    by_cases h : b == c
    · simp [h]
    · simp only [h]
      cases splitC c l <;> simp

theorem splitC_none {c : UInt8} : ∀ {l : List UInt8}, (∀ k : Nat, l[k]? ≠ some c) → splitC c l = [l]
  | [], _ => rfl
  | b :: l, h => by
    have hb : (b == c) = false := by
      have := h 0
      simp at this
      simpa using this
    have ih := splitC_none (l := l) fun k => by simpa using h (k + 1)
    simp [splitC, hb, ih]

theorem splitC_at {c : UInt8} : ∀ {l : List UInt8} {i : Nat}, l[i]? = some c → (∀ k, k < i → l[k]? ≠ some c) → splitC c l = l.take i :: splitC c (l.drop (i + 1))
  | [], i, h, _ => by simp at h
  | b :: l, 0, h, _ => by
    simp at h
    subst h
    simp [splitC]
  | b :: l, i + 1, h, k => by
    have hb : (b == c) = false := by
      have := k 0 (by omega)
      simp at this
      simpa using this
    have ih := splitC_at (l := l) (i := i) (by simpa using h) fun j hj => by simpa using k (j + 1) (by omega)
    simp [splitC, hb, ih]

theorem splitK_one (c : UInt8) : ∀ (n : Nat) (l : List UInt8), l.length ≤ n → Lib.splitK [c] 0 (Lib.count l [c]) l = splitC c l
  | n, l, hn => by
    by_cases hm : Lib.index l [c] = -1
    · rw [Lib.count_miss hm]
      rw [Lib.index_one] at hm
      rw [splitC_none (Lib.indexByte_none hm)]
      rfl
    · have h0 : 0 ≤ Lib.index l [c] := by
        have := Lib.indexByte_ge l c
        rw [Lib.index_one] at hm ⊢
        omega
      obtain ⟨i, hi⟩ := Int.eq_ofNat_of_zero_le h0
      have hi' := hi
      rw [Lib.index_one] at hi'
      obtain ⟨h1, h2⟩ := Lib.indexByte_some hi'
      have hlt : i < l.length := by
        rcases Nat.lt_or_ge i l.length with g | g
        · exact g
        · simp [List.getElem?_eq_none g] at h1
      rw [Lib.count_hit (by simp) hi, Nat.add_comm]
      match n, hn with
      | 0, hn => omega
      | n + 1, hn =>
        have hne : ¬ (((i : Nat) : Int) == -1) = true := by simp
        rw [Lib.splitK, hi, if_neg hne, splitC_at h1 h2]
        congr 1
        simpa using splitK_one c n (l.drop (i + 1)) (by simp; omega)

/-- base-10 digits, with a bound on how many -/
def digs : Nat → Nat → List UInt8
  | 0, _ => []
  | f + 1, u => if u < 10 then [UInt8.ofNat (48 + u)] else digs f (u / 10) ++ [UInt8.ofNat (48 + u % 10)]

theorem digs_eq : ∀ (f u : Nat), u < 10 ^ f → digs f u = Lib.decDigits u ∨ f = 0
  | 0, _, _ => .inr rfl
  | f + 1, u, h => by
    left
    unfold digs
    rw [Lib.decDigits]
    by_cases hu : u < 10
    · simp [hu]
    · have h' : u / 10 < 10 ^ f := by rw [Nat.pow_succ] at h; omega
      rcases digs_eq f (u / 10) h' with e | rfl
      · simp [hu, e]
      · simp at h'; omega

def itoa (n : Int) : List UInt8 := if n < 0 then 45 :: digs 20 n.natAbs else digs 20 n.toNat

theorem itoa_eq {n : Int} (h0 : -9223372036854775808 ≤ n) (h1 : n ≤ 9223372036854775807) : itoa n = Lib.itoa n := by
  unfold itoa Lib.itoa
  split
  · rcases digs_eq 20 n.natAbs (by omega) with e | e
    · rw [e]
    · omega
  · rcases digs_eq 20 n.toNat (by omega) with e | e
    · rw [e]
    · omega

theorem splitB_lists (c : UInt8) (s : ByteArray) : (Lib.splitB ⟨#[c]⟩ 0 (Lib.countB s ⟨#[c]⟩) s).map (·.data.toList) = splitC c s.data.toList := by
  rw [Lib.splitB_data]
  exact splitK_one c _ _ (Nat.le_refl _)

end Go.Cl

namespace Go.Cl
open Go
set_option linter.unusedSimpArgs false
set_option linter.unusedVariables false

def isLow (b : UInt8) : Bool := decide (97 ≤ b.toNat) && decide (b.toNat ≤ 122)
def isDig (b : UInt8) : Bool := decide (48 ≤ b.toNat) && decide (b.toNat ≤ 57)
def isSeen (b : UInt8) : Bool := decide (33 ≤ b.toNat) && decide (b.toNat ≤ 126)

def lows : List UInt8 := [97, 98, 99, 100, 101, 102, 103, 104, 105, 106, 107, 108, 109, 110, 111, 112, 113, 114, 115, 116, 117, 118, 119, 120, 121, 122]
def digits : List UInt8 := [48, 49, 50, 51, 52, 53, 54, 55, 56, 57]

theorem u8_forall {p : UInt8 → Prop} (h : ∀ n : Fin 256, p (UInt8.ofNat n.val)) (b : UInt8) : p b := by
  have := h ⟨b.toNat, b.toNat_lt⟩
  simpa using this

theorem lows_has (b : UInt8) : lows.contains b = isLow b := by
  revert b
  exact u8_forall (by decide +kernel)
theorem digits_has (b : UInt8) : digits.contains b = isDig b := by
  revert b
  exact u8_forall (by decide +kernel)

theorem dropWhile_nil {α : Type} {p : α → Bool} : ∀ {l : List α}, l.dropWhile p = [] ↔ l.all p = true
  | [] => by simp
  | b :: l => by
    by_cases h : p b = true
    · simp [List.dropWhile, h, dropWhile_nil (l := l)]
    · have h' : p b = false := by simpa using h
      simp [List.dropWhile, h']

/-- nothing is left: all are of the set -/
theorem trimS_nil {l cs : List UInt8} : Lib.trimS l cs = [] ↔ l.all (fun b => cs.contains b) = true := by
  have mem : ∀ (b : UInt8), b ∈ (l.reverse.dropWhile (cs.contains ·)) → b ∈ l := fun b hb => by
    have := (List.dropWhile_sublist (l := l.reverse) (cs.contains ·)).subset hb
    simpa using this
  unfold Lib.trimS Lib.trimLeftS Lib.trimRightS
  rw [dropWhile_nil]
  constructor
  · intro h
    have h2 : ∀ b ∈ l.reverse.dropWhile (cs.contains ·), cs.contains b = true := fun b hb => by
      have := List.all_eq_true.1 h b (by simpa using hb)
      exact this
    have h3 : l.reverse.dropWhile (cs.contains ·) = [] := by
      cases hd : l.reverse.dropWhile (cs.contains ·) with
      | nil => rfl
      | cons x t =>
        have hx := List.head?_dropWhile_not (cs.contains ·) l.reverse
        rw [hd] at hx
        simp at hx
        have := h2 x (by rw [hd]; simp)
        simp at this
        exact absurd this hx
    rw [dropWhile_nil] at h3
    simpa using h3
  · intro h
    have h3 : l.reverse.dropWhile (cs.contains ·) = [] := by rw [dropWhile_nil]; simpa using h
    rw [h3]; rfl

/-- may something be called so -/
def nameP (s : List UInt8) : Bool := decide (1 ≤ s.length) && decide (s.length ≤ 8) && s.all isLow

theorem trim_lows {s : List UInt8} : (Lib.trimS s lows == ([] : List UInt8)) = s.all isLow := by
  have h : s.all (fun b => lows.contains b) = s.all isLow := by congr 1; funext b; exact lows_has b
  by_cases hc : s.all isLow = true
  · rw [hc, beq_iff_eq, trimS_nil, h, hc]
  · have : ¬ Lib.trimS s lows = [] := fun e => hc (by rw [← h]; exact trimS_nil.1 e)
    have hf : s.all isLow = false := by simpa using hc
    rw [hf]; simpa using this

theorem trim_digits {s : List UInt8} : (Lib.trimS s digits == ([] : List UInt8)) = s.all isDig := by
  have h : s.all (fun b => digits.contains b) = s.all isDig := by congr 1; funext b; exact digits_has b
  by_cases hc : s.all isDig = true
  · rw [hc, beq_iff_eq, trimS_nil, h, hc]
  · have : ¬ Lib.trimS s digits = [] := fun e => hc (by rw [← h]; exact trimS_nil.1 e)
    have hf : s.all isDig = false := by simpa using hc
    rw [hf]; simpa using this

theorem isEmpty_lows {s : List UInt8} : (Lib.trimS s lows).isEmpty = s.all isLow := by
  rw [← trim_lows]; cases Lib.trimS s lows <;> rfl
theorem isEmpty_digits {s : List UInt8} : (Lib.trimS s digits).isEmpty = s.all isDig := by
  rw [← trim_digits]; cases Lib.trimS s digits <;> rfl

/-- a text's lines -/
def linesP (s : List UInt8) : Option (List (List UInt8)) :=
  if s = [] then some [] else if Lib.hasSuffix s [10] then some (splitC 10 (Lib.trimSuffix s [10])) else none

/-- may a word be so -/
def wordOk (w : List UInt8) : Bool := !w.isEmpty && w.all isSeen

/-- a line's words -/
def wordsP (s : List UInt8) : Option (List (List UInt8)) :=
  if s = [] then some [] else if (splitC 32 s).all wordOk then some (splitC 32 s) else none

def errOf (x : Option (List (List UInt8))) : Int := match x with | some _ => 0 | none => 2

/-- how a number is read: which, or why not -/
def numP (s : List UInt8) : Int × Int :=
  let t := Lib.trimPrefix s [45]
  if (t == [] || !t.all isDig || (decide (1 < t.length) && t[0]? == some 48) || s == [45, 48]) then (0, 2)
  else match Lib.parseIntB 64 s with
    | .ok v => (v, 0)
    | _ => (0, 14)

/-! ### digits -/

theorem dec_small {u : Nat} (h : u < 10) : Lib.decDigits u = [UInt8.ofNat (48 + u)] := by rw [Lib.decDigits]; simp [h]
theorem dec_step {u : Nat} (h : ¬ u < 10) : Lib.decDigits u = Lib.decDigits (u / 10) ++ [UInt8.ofNat (48 + u % 10)] := by rw [Lib.decDigits]; simp [h]

theorem digs_len : ∀ (f u : Nat), (digs f u).length ≤ f
  | 0, _ => by simp [digs]
  | f + 1, u => by
    unfold digs
    split
    · simp
    · have := digs_len f (u / 10)
      simp; omega

theorem dec_len {u : Nat} (h : u < 10 ^ 20) : (Lib.decDigits u).length ≤ 20 := by
  rcases digs_eq 20 u h with e | e
  · rw [← e]; exact digs_len 20 u
  · omega

theorem itoa_len (n : Int) : (itoa n).length ≤ 21 := by
  unfold itoa
  split
  · have := digs_len 20 n.natAbs; simp; omega
  · have := digs_len 20 n.toNat; omega

theorem itoa_pos {n : Nat} (h : n ≤ 9223372036854775807) : itoa (n : Int) = Lib.decDigits n := by
  rw [itoa_eq (by omega) (by omega)]
  unfold Lib.itoa
  rw [if_neg (by omega)]; simp
theorem itoa_neg {n : Nat} (h0 : 1 ≤ n) (h : n ≤ 9223372036854775808) : itoa (-(n : Int)) = 45 :: Lib.decDigits n := by
  rw [itoa_eq (by omega) (by omega)]
  unfold Lib.itoa
  rw [if_pos (by omega)]; simp

/-- what is still to be put ahead -/
def ahead (u : Nat) : List UInt8 := if u < 10 then [] else Lib.decDigits (u / 10)

theorem dec_ahead (u : Nat) : Lib.decDigits u = ahead u ++ [UInt8.ofNat (48 + u % 10)] := by
  unfold ahead
  by_cases h : u < 10
  · rw [dec_small h, if_pos h, Nat.mod_eq_of_lt h]; rfl
  · rw [dec_step h, if_neg h]

end Go.Cl

namespace Go.Cl
open Go
set_option linter.unusedSimpArgs false
set_option linter.unusedVariables false

theorem splitC_snoc (c : UInt8) : ∀ (t : List UInt8), splitC c (t ++ [c]) = splitC c t ++ [[]]
  | [] => by simp [splitC]
  | b :: t => by
    have ih := splitC_snoc c t
    by_cases h : b == c
    · simp [splitC, h, ih]
    · have hne := splitC_ne c t
      simp only [List.cons_append, splitC, h, ih]
      cases hs : splitC c t with
      | nil => exact absurd hs hne
      | cons w ws => simp

theorem suffix_iff {s : List UInt8} {c : UInt8} : Lib.hasSuffix s [c] = true ↔ ∃ t, s = t ++ [c] := by
  unfold Lib.hasSuffix
  rw [List.isSuffixOf_iff_suffix]
  constructor
  · rintro ⟨t, h⟩; exact ⟨t, h.symm⟩
  · rintro ⟨t, h⟩; exact ⟨t, h.symm⟩

theorem trimSuffix_snoc {t : List UInt8} {c : UInt8} : Lib.trimSuffix (t ++ [c]) [c] = t := by
  unfold Lib.trimSuffix
  rw [if_pos (suffix_iff.2 ⟨t, rfl⟩)]
  simp

theorem suffix_last {s : List UInt8} {c : UInt8} (h : s ≠ []) : Lib.hasSuffix s [c] = true ↔ s[s.length - 1]? = some c := by
  rw [suffix_iff]
  constructor
  · rintro ⟨t, rfl⟩; simp
  · intro h2
    refine ⟨s.dropLast, ?_⟩
    have := List.dropLast_concat_getLast h
    rw [List.getLast_eq_getElem] at this
    have hl : s.length - 1 < s.length := by have := List.length_pos_iff.2 h; omega
    rw [List.getElem?_eq_getElem hl] at h2
    rw [← this]
    simp at h2
    simp [h2]

/-- so far the pieces are told; from here on there is no cut up to i -/
structure CutAt (c : UInt8) (s : List UInt8) (frm i : Nat) (out : List (List UInt8)) : Prop where
  fi : frm ≤ i
  il : i ≤ s.length
  cut : splitC c s = out ++ splitC c (s.drop frm)
  no : ∀ k, frm ≤ k → k < i → s[k]? ≠ some c

theorem CutAt.zero (c : UInt8) (s : List UInt8) : CutAt c s 0 0 [] := ⟨by omega, by omega, by simp, fun k _ h => by omega⟩

theorem CutAt.next {c : UInt8} {s : List UInt8} {f i : Nat} {out : List (List UInt8)} (k : CutAt c s f i out) (hi : i < s.length) (h : s[i]? ≠ some c) : CutAt c s f (i + 1) out :=
  ⟨by have := k.fi; omega, by omega, k.cut, fun j h1 h2 => by
    by_cases e : j = i
    · subst e; exact h
    · exact k.no j h1 (by omega)⟩

theorem CutAt.hit {c : UInt8} {s : List UInt8} {f i : Nat} {out : List (List UInt8)} (k : CutAt c s f i out) (h : s[i]? = some c) : CutAt c s (i + 1) (i + 1) (out ++ [(s.take i).drop f]) := by
  have hi : i < s.length := by
    rcases Nat.lt_or_ge i s.length with g | g
    · exact g
    · simp [List.getElem?_eq_none g] at h
  have hf := k.fi
  refine ⟨Nat.le_refl _, by omega, ?_, fun j h1 h2 => by omega⟩
  have e := splitC_at (c := c) (l := s.drop f) (i := i - f) (by rw [List.getElem?_drop, show f + (i - f) = i by omega]; exact h) (fun j hj => by
    rw [List.getElem?_drop]; exact k.no _ (by omega) (by omega))
  rw [k.cut, e, List.drop_drop, show f + (i - f + 1) = i + 1 by omega]
  simp [List.drop_take]

theorem CutAt.done {c : UInt8} {s : List UInt8} {f : Nat} {out : List (List UInt8)} (k : CutAt c s f s.length out) : splitC c s = out ++ [s.drop f] := by
  rw [k.cut, splitC_none]
  intro j
  rw [List.getElem?_drop]
  by_cases h : f + j < s.length
  · exact k.no _ (by omega) h
  · rw [List.getElem?_eq_none (by omega)]; simp

theorem splitC_mem {c b : UInt8} : ∀ {s : List UInt8}, b ∈ s → b ≠ c → ∃ w ∈ splitC c s, b ∈ w
  | [], h, _ => by simp at h
  | x :: s, h, hne => by
    by_cases hx : x == c
    · have hxc : x = c := by simpa using hx
      have hb : b ∈ s := by
        rcases List.mem_cons.1 h with e | e
        · exact absurd (e.trans hxc) hne
        · exact e
      obtain ⟨w, h1, h2⟩ := splitC_mem hb hne
      exact ⟨w, by simp [splitC, hx, h1], h2⟩
    · simp only [splitC, hx]
      cases hs : splitC c s with
      | nil => exact absurd hs (splitC_ne c s)
      | cons w ws =>
        simp
        rcases List.mem_cons.1 h with e | e
        · left; left; exact e
        · obtain ⟨w', h1, h2⟩ := splitC_mem e hne
          rw [hs] at h1
          rcases List.mem_cons.1 h1 with q | q
          · left; right; rw [← q]; exact h2
          · right; exact ⟨w', q, h2⟩

theorem words_none {s : List UInt8} {w : List UInt8} (h0 : s ≠ []) (hw : w ∈ splitC 32 s) (hb : wordOk w = false) : wordsP s = none := by
  unfold wordsP
  rw [if_neg h0, if_neg]
  intro hh
  rw [List.all_eq_true.1 hh w hw] at hb
  cases hb

theorem words_unseen {s : List UInt8} {b : UInt8} (hb : b ∈ s) (h32 : b ≠ 32) (hn : isSeen b = false) : wordsP s = none := by
  obtain ⟨w, h1, h2⟩ := splitC_mem hb h32
  refine words_none (List.ne_nil_of_mem hb) h1 ?_
  have : w.all isSeen = false := by
    rw [Bool.eq_false_iff]; intro hh
    rw [List.all_eq_true.1 hh b h2] at hn; cases hn
  simp [wordOk, this]

theorem CutAt.first {c : UInt8} {s : List UInt8} {f i : Nat} {out : List (List UInt8)} (k : CutAt c s f i out) (h : s[i]? = some c) : (s.take i).drop f ∈ splitC c s := by
  rw [(k.hit h).cut]; simp
theorem CutAt.last {c : UInt8} {s : List UInt8} {f : Nat} {out : List (List UInt8)} (k : CutAt c s f s.length out) : splitC c s = out ++ [(s.take s.length).drop f] := by
  rw [List.take_length]; exact k.done

/-- all lines are told -/
theorem CutAt.lines {s : List UInt8} {f : Nat} {out : List (List UInt8)} (k : CutAt 10 s f s.length out) (h : s = [] ∨ Lib.hasSuffix s [10] = true) : linesP s = some out := by
  unfold linesP
  by_cases hs : s = []
  · subst hs
    have := k.done
    rw [if_pos rfl]
    have hf : f = 0 := by have := k.fi; simpa using this
    subst hf
    have e := k.cut
    simp [splitC] at e
    simp [e]
  · have h2 := h.resolve_left hs
    rw [if_neg hs, if_pos h2]
    obtain ⟨t, rfl⟩ := suffix_iff.1 h2
    have hd := k.done
    rw [splitC_snoc] at hd
    have hfl : f = (t ++ [(10 : UInt8)]).length := by
      rcases Nat.lt_or_ge f (t ++ [(10 : UInt8)]).length with g | g
      · exfalso
        refine k.no t.length ?_ (by simp) (by simp)
        simp at g; omega
      · have := k.fi; omega
    rw [hfl, List.drop_length] at hd
    rw [trimSuffix_snoc, List.append_cancel_right hd]

end Go.Cl

namespace Go.Cl
open Go
set_option linter.unusedSimpArgs false
set_option linter.unusedVariables false

/-- what digits spell behind others -/
def dval (acc : Nat) (t : List UInt8) : Nat := t.foldl (fun a c => a * 10 + (c.toNat - 48)) acc

theorem dval_nil {acc : Nat} : dval acc [] = acc := rfl
theorem dval_cons {acc : Nat} {c : UInt8} {r : List UInt8} : dval acc (c :: r) = dval (acc * 10 + (c.toNat - 48)) r := by simp only [dval, List.foldl_cons]

theorem dval_ge : ∀ (t : List UInt8) (acc : Nat), acc ≤ dval acc t
  | [], acc => by rw [dval_nil]; exact Nat.le_refl acc
  | c :: r, acc => by
    have := dval_ge r (acc * 10 + (c.toNat - 48))
    rw [dval_cons]
    omega

theorem parseM_nil {M acc : Nat} : Lib.parseUintM M acc [] = .ok acc := by simp [Lib.parseUintM]
theorem parseM_cons {M acc : Nat} {c : UInt8} {r : List UInt8} (hc : 48 ≤ c.toNat ∧ c.toNat ≤ 57) : Lib.parseUintM M acc (c :: r) =
    if 1844674407370955162 ≤ acc then .range else if M < acc * 10 + (c.toNat - 48) then .range else Lib.parseUintM M (acc * 10 + (c.toNat - 48)) r := by
  simp only [Lib.parseUintM, if_pos hc]

theorem parseM (M : Nat) (hM : M = 18446744073709551615) : ∀ (t : List UInt8) (acc v : Nat), t.all isDig = true → acc ≤ M → dval acc t = v →
    Lib.parseUintM M acc t = if v ≤ M then .ok v else .range
  | [], acc, v, _, ha, hv => by
    rw [dval_nil] at hv
    subst hv
    rw [parseM_nil, if_pos ha]
  | c :: r, acc, v, hd, ha, hv => by
    simp only [List.all_cons, Bool.and_eq_true] at hd
    have hc := hd.1
    simp only [isDig, Bool.and_eq_true, decide_eq_true_eq] at hc
    have hge := dval_ge r (acc * 10 + (c.toNat - 48))
    rw [dval_cons] at hv
    rw [parseM_cons hc]
    rw [hv] at hge
    by_cases h1 : 1844674407370955162 ≤ acc
    · rw [if_pos h1, if_neg (by omega)]
    · rw [if_neg h1]
      by_cases h2 : M < acc * 10 + (c.toNat - 48)
      · rw [if_pos h2, if_neg (by omega)]
      · rw [if_neg h2]
        exact parseM M hM r _ v hd.2 (by omega) hv

/-- with its sign -/
def signed (minus : Bool) (t : List UInt8) : List UInt8 := if minus then 45 :: t else t

def numV (minus : Bool) (v : Nat) : Int × Int :=
  if minus then (if v ≤ 9223372036854775808 then (-(v : Int), 0) else (0, 14)) else if v < 9223372036854775808 then ((v : Int), 0) else (0, 14)

theorem trim_signed {minus : Bool} {t : List UInt8} (h : minus = false → t[0]? ≠ some 45) : Lib.trimPrefix (signed minus t) [45] = t := by
  cases minus with
  | true => simp [signed, Lib.trimPrefix, Lib.hasPrefix, List.isPrefixOf]
  | false =>
    have := h rfl
    unfold signed Lib.trimPrefix Lib.hasPrefix
    cases t with
    | nil => rfl
    | cons b t =>
      simp at this
      have hb : ((45 : UInt8) == b) = false := by
        rw [beq_eq_false_iff_ne]; exact fun e => this e.symm
      simp [List.isPrefixOf, hb]

theorem numP_form {minus : Bool} {t : List UInt8} (h : minus = false → t[0]? ≠ some 45) (k : t = [] ∨ t.all isDig = false ∨ (t[0]? = some 48 ∧ (1 < t.length ∨ minus = true))) : numP (signed minus t) = (0, 2) := by
  unfold numP
  simp only [trim_signed h]
  rw [if_pos]
  rcases k with k | k | ⟨k1, k2 | k2⟩
  · simp [k]
  · simp [k]
  · simp [k1, k2]
  · subst k2
    by_cases hl : 1 < t.length
    · simp [k1, hl]
    · cases t with
      | nil => simp at k1
      | cons b t =>
        simp at k1 hl
        subst k1
        have : t = [] := by
          cases t with
          | nil => rfl
          | cons _ _ => simp at hl
        subst this
        rfl

theorem numP_good {minus : Bool} {t : List UInt8} (h0 : t ≠ []) (hd : t.all isDig = true) (hz : ¬ (t[0]? = some 48 ∧ (1 < t.length ∨ minus = true))) : numP (signed minus t) = numV minus (dval 0 t) := by
  obtain ⟨b, r, rfl⟩ : ∃ b r, t = b :: r := by
    cases t with
    | nil => exact absurd rfl h0
    | cons b r => exact ⟨b, r, rfl⟩
  have hb : isDig b = true := by simp only [List.all_cons, Bool.and_eq_true] at hd; exact hd.1
  have hb' := hb
  simp only [isDig, Bool.and_eq_true, decide_eq_true_eq] at hb'
  have hne45 : b ≠ 45 := by rintro rfl; simp at hb'
  unfold numP
  simp only [trim_signed (minus := minus) (t := b :: r) (by simp [hne45])]
  rw [if_neg]
  · obtain ⟨v, hv⟩ : ∃ v, dval 0 (b :: r) = v := ⟨_, rfl⟩
    obtain ⟨M, hM⟩ : ∃ M, M = 2 ^ 64 - 1 := ⟨_, rfl⟩
    have hM' : M = 18446744073709551615 := hM
    have hp : Lib.parseUintB 64 (b :: r) = if v ≤ M then .ok v else .range := by
      unfold Lib.parseUintB
      rw [if_neg (by simp), ← hM]
      exact parseM M hM' _ _ _ hd (by omega) hv
    rw [hv]
    obtain ⟨C, hC⟩ : ∃ C, C = 2 ^ (64 - 1) := ⟨_, rfl⟩
    have hC' : C = 9223372036854775808 := hC
    cases minus with
    | true =>
      rw [show signed true (b :: r) = 45 :: b :: r by simp [signed], Lib.parseIntB_minus, hp, ← hC]
      by_cases h1 : v ≤ M
      · rw [if_pos h1]
        simp only [Lib.signedC, numV]
        by_cases h2 : v ≤ 9223372036854775808
        · have : ¬ C < v := by omega
          simp [h2, this]
        · have : C < v := by omega
          simp [h2, this]
      · rw [if_neg h1]
        have : ¬ v ≤ 9223372036854775808 := by omega
        simp [Lib.signedC, numV, this]
    | false =>
      rw [show signed false (b :: r) = b :: r by simp [signed], Lib.parseIntB_plain _ _ _ (by omega) (by omega), hp, ← hC]
      by_cases h1 : v ≤ M
      · rw [if_pos h1]
        simp only [Lib.signlessC, numV]
        by_cases h2 : v < 9223372036854775808
        · have : ¬ C ≤ v := by omega
          simp [h2, this]
        · have : C ≤ v := by omega
          simp [h2, this]
      · rw [if_neg h1]
        have : ¬ v < 9223372036854775808 := by omega
        simp [Lib.signlessC, numV, this]
  · intro hh
    simp only [Bool.or_eq_true, Bool.and_eq_true, Bool.not_eq_true', beq_iff_eq, decide_eq_true_eq] at hh
    rcases hh with ((hh | hh) | ⟨h1, h2⟩) | hh
    · cases hh
    · rw [hd] at hh; cases hh
    · exact hz ⟨h2, .inl h1⟩
    · cases minus with
      | false =>
        simp only [signed] at hh
        simp at hh
        exact hne45 hh.1
      | true =>
        simp only [signed] at hh
        simp at hh
        exact hz ⟨by simp [hh.1], .inr rfl⟩

end Go.Cl

namespace Go.Cl
open Go
set_option linter.unusedSimpArgs false
set_option linter.unusedVariables false

theorem dval_snoc {a : Nat} {t : List UInt8} {c : UInt8} : dval a (t ++ [c]) = dval a t * 10 + (c.toNat - 48) := by
  simp only [dval, List.foldl_append, List.foldl_cons, List.foldl_nil]

theorem dval_mono {t : List UInt8} {i : Nat} : dval 0 (t.take i) ≤ dval 0 t := by
  have : t = t.take i ++ t.drop i := (List.take_append_drop i t).symm
  have e : dval 0 t = dval (dval 0 (t.take i)) (t.drop i) := by
    conv => lhs; rw [this]
    simp only [dval, List.foldl_append]
  rw [e]; exact dval_ge _ _

theorem digit_toNat {d : Nat} (h : d < 10) : (UInt8.ofNat (48 + d)).toNat = 48 + d := by
  simp; omega

theorem dec_dig (u : Nat) : (Lib.decDigits u).all isDig = true := by
  induction u using Nat.strongRecOn with
  | _ u ih =>
    by_cases h : u < 10
    · rw [dec_small h]
      simp only [List.all_cons, List.all_nil, isDig, digit_toNat h]
      simp; omega
    · rw [dec_step h, List.all_append, ih (u / 10) (by omega)]
      simp only [List.all_cons, List.all_nil, isDig, digit_toNat (show u % 10 < 10 by omega)]
      simp; omega

theorem dec_ne (u : Nat) : Lib.decDigits u ≠ [] := by
  by_cases h : u < 10
  · rw [dec_small h]; simp
  · rw [dec_step h]; simp

theorem dval_dec (u : Nat) : dval 0 (Lib.decDigits u) = u := by
  induction u using Nat.strongRecOn with
  | _ u ih =>
    by_cases h : u < 10
    · rw [dec_small h, dval_cons, dval_nil, digit_toNat h]; omega
    · rw [dec_step h, dval_snoc, ih (u / 10) (by omega), digit_toNat (show u % 10 < 10 by omega)]; omega

theorem dec_head {u : Nat} (h : 1 ≤ u) : (Lib.decDigits u)[0]? ≠ some 48 := by
  induction u using Nat.strongRecOn with
  | _ u ih =>
    by_cases h10 : u < 10
    · rw [dec_small h10]
      simp only [List.getElem?_cons_zero]
      intro e
      have := congrArg UInt8.toNat (Option.some.inj e)
      rw [digit_toNat h10] at this
      simp at this; omega
    · rw [dec_step h10, List.getElem?_append_left (List.length_pos_iff.2 (dec_ne _))]
      exact ih (u / 10) (by omega) (by omega)

theorem dval_pos : ∀ {t : List UInt8}, t.all isDig = true → t ≠ [] → t[0]? ≠ some 48 → 1 ≤ dval 0 t
  | [], _, h, _ => absurd rfl h
  | c :: r, hd, _, hz => by
    simp only [List.all_cons, Bool.and_eq_true, isDig, decide_eq_true_eq] at hd
    have hge := dval_ge r (0 * 10 + (c.toNat - 48))
    rw [dval_cons]
    have : c.toNat ≠ 48 := fun e => hz (by simp; apply UInt8.toNat.inj; simpa using e)
    omega

/-- digits without a 0 ahead are their number's -/
theorem dec_dval : ∀ (n : Nat) (t : List UInt8), t.length ≤ n → t.all isDig = true → t ≠ [] → (t[0]? = some 48 → t.length = 1) → Lib.decDigits (dval 0 t) = t
  | 0, t, hl, _, h, _ => absurd (List.length_eq_zero_iff.1 (by omega)) h
  | n + 1, t, hl, hd, h, hz => by
    obtain ⟨r, c, rfl⟩ : ∃ r c, t = r ++ [c] := ⟨t.dropLast, t.getLast h, (List.dropLast_concat_getLast h).symm⟩
    rw [List.all_append, Bool.and_eq_true] at hd
    have hc := hd.2
    simp only [List.all_cons, List.all_nil, Bool.and_true, isDig, Bool.and_eq_true, decide_eq_true_eq] at hc
    have hcc : UInt8.ofNat (48 + (c.toNat - 48)) = c := by
      apply UInt8.toNat.inj
      rw [digit_toNat (by omega)]; omega
    rw [dval_snoc]
    by_cases hr : r = []
    · subst hr
      rw [dval_nil, dec_small (by omega)]
      simp only [Nat.zero_mul, Nat.zero_add, List.nil_append]
      rw [hcc]
    · have hrl := List.length_pos_iff.2 hr
      have hz' : r[0]? ≠ some 48 := fun e => by
        have := hz (by rw [List.getElem?_append_left hrl]; exact e)
        rw [List.length_append, List.length_singleton] at this; omega
      have hp := dval_pos hd.1 hr hz'
      rw [dec_step (by omega), show (dval 0 r * 10 + (c.toNat - 48)) / 10 = dval 0 r by omega, show (dval 0 r * 10 + (c.toNat - 48)) % 10 = c.toNat - 48 by omega, hcc,
        dec_dval n r (by simp at hl; omega) hd.1 hr fun e => absurd e hz']

/-- a text is read as its number -/
theorem numP_itoa {n : Int} (h0 : -9223372036854775808 ≤ n) (h1 : n ≤ 9223372036854775807) : numP (itoa n) = (n, 0) := by
  by_cases hn : n < 0
  · obtain ⟨u, rfl⟩ : ∃ u : Nat, n = -(u : Int) := ⟨n.natAbs, by omega⟩
    have hh := dec_head (u := u) (by omega)
    rw [itoa_neg (by omega) (by omega), show (45 :: Lib.decDigits u) = signed true (Lib.decDigits u) by simp [signed], numP_good (dec_ne u) (dec_dig u) (fun x => hh x.1), dval_dec]
    have : u ≤ 9223372036854775808 := by omega
    simp [numV, this]
  · obtain ⟨u, rfl⟩ : ∃ u : Nat, n = u := ⟨n.toNat, by omega⟩
    rw [itoa_pos (by omega), show Lib.decDigits u = signed false (Lib.decDigits u) by simp [signed], numP_good (dec_ne u) (dec_dig u) ?_, dval_dec]
    · have : u < 9223372036854775808 := by omega
      simp [numV, this]
    · rintro ⟨x, y | y⟩
      · by_cases h0 : u = 0
        · subst h0
          rw [dec_small (by omega)] at y; simp at y
        · exact dec_head (u := u) (by omega) x
      · cases y

/-- what is read as a number is its text -/
theorem itoa_numP {s : List UInt8} (h : (numP s).2 = 0) : itoa (numP s).1 = s := by
  have key : ∀ (minus : Bool) (t : List UInt8), s = signed minus t → (minus = false → t[0]? ≠ some 45) → itoa (numP s).1 = s := by
    intro minus t hst hm
    by_cases k : t = [] ∨ t.all isDig = false ∨ (t[0]? = some 48 ∧ (1 < t.length ∨ minus = true))
    · rw [hst, numP_form hm k] at h; cases h
    · have k1 : t ≠ [] := fun e => k (.inl e)
      have k2 : t.all isDig = true := by
        cases e : t.all isDig with
        | true => rfl
        | false => exact absurd (.inr (.inl e)) k
      have k3 : ¬ (t[0]? = some 48 ∧ (1 < t.length ∨ minus = true)) := fun e => k (.inr (.inr e))
      have hg := numP_good (minus := minus) k1 k2 k3
      rw [← hst] at hg
      have hpos := List.length_pos_iff.2 k1
      have hd := dec_dval t.length t (Nat.le_refl _) k2 k1 (fun e => by
        by_cases hl : 1 < t.length
        · exact absurd ⟨e, .inl hl⟩ k3
        · omega)
      cases minus with
      | true =>
        have h48 : t[0]? ≠ some 48 := fun e => k3 ⟨e, .inr rfl⟩
        have hp := dval_pos k2 k1 h48
        unfold numV at hg
        simp only [if_true] at hg
        split at hg
        · rename_i hle
          rw [hg, itoa_neg hp hle, hd, hst]; simp [signed]
        · rw [hg] at h; cases h
      | false =>
        unfold numV at hg
        simp only [Bool.false_eq_true, if_false] at hg
        split at hg
        · rename_i hle
          rw [hg, itoa_pos (by omega), hd, hst]; simp [signed]
        · rw [hg] at h; cases h
  cases s with
  | nil => exact key false [] (by simp [signed]) (by simp)
  | cons b t =>
    by_cases hb : b = 45
    · subst hb; exact key true t (by simp [signed]) (by simp)
    · exact key false (b :: t) (by simp [signed]) (by simpa using hb)

theorem numP_in (s : List UInt8) : -9223372036854775808 ≤ (numP s).1 ∧ (numP s).1 ≤ 9223372036854775807 := by
  cases hp : Lib.parseIntB 64 s with
  | ok v =>
    have hb := Lib.parseIntB_bounds hp
    simp at hb
    simp only [numP, hp]
    split
    · decide
    · exact ⟨hb.1, by show v ≤ _; omega⟩
  | range => simp only [numP, hp]; split <;> decide
  | _ => simp only [numP, hp]; split <;> decide

theorem dec_len19 {u : Nat} (h : u < 10 ^ 19) : (Lib.decDigits u).length ≤ 19 := by
  rcases digs_eq 19 u h with e | e
  · rw [← e]; exact digs_len 19 u
  · omega

theorem itoa_len20 {n : Int} (h0 : -9223372036854775808 ≤ n) (h1 : n ≤ 9223372036854775807) : 1 ≤ (itoa n).length ∧ (itoa n).length ≤ 20 := by
  by_cases hn : n < 0
  · obtain ⟨u, rfl⟩ : ∃ u : Nat, n = -(u : Int) := ⟨n.natAbs, by omega⟩
    rw [itoa_neg (by omega) (by omega)]
    have := dec_len19 (u := u) (by omega)
    simp; omega
  · obtain ⟨u, rfl⟩ : ∃ u : Nat, n = u := ⟨n.toNat, by omega⟩
    rw [itoa_pos (by omega)]
    have := dec_len19 (u := u) (by omega)
    have := List.length_pos_iff.2 (dec_ne u)
    omega

end Go.Cl

namespace Go.Cl
open Go
set_option linter.unusedSimpArgs false
set_option linter.unusedVariables false

/-- words with a byte between them -/
def joinC (c : UInt8) : List (List UInt8) → List UInt8
  | [] => []
  | [w] => w
  | w :: x :: ws => w ++ c :: joinC c (x :: ws)

/-- lines, each with its end -/
def linesOf (l : List (List UInt8)) : List UInt8 := l.flatMap fun w => w ++ [10]

theorem joinC_snoc (c : UInt8) (w : List UInt8) : ∀ (l : List (List UInt8)), l ≠ [] → joinC c (l ++ [w]) = joinC c l ++ c :: w
  | [], h => absurd rfl h
  | [x], _ => by simp [joinC]
  | x :: y :: l, _ => by
    have ih := joinC_snoc c w (y :: l) (by simp)
    simp only [List.cons_append] at ih
    simp [joinC, ih]

theorem joinC_cons {c : UInt8} {w : List UInt8} {ws : List (List UInt8)} (h : ws ≠ []) : joinC c (w :: ws) = w ++ c :: joinC c ws := by
  cases ws with
  | nil => exact absurd rfl h
  | cons x ws => rfl

theorem join_split (c : UInt8) : ∀ (s : List UInt8), joinC c (splitC c s) = s
  | [] => rfl
  | b :: s => by
    have ih := join_split c s
    have hne := splitC_ne c s
    simp only [splitC]
    by_cases h : b == c
    · have hb : b = c := by simpa using h
      rw [if_pos h, joinC_cons hne, ih, hb]; rfl
    · rw [if_neg h]
      cases hs : splitC c s with
      | nil => exact absurd hs hne
      | cons w ws =>
        rw [hs] at ih
        cases ws with
        | nil => simp only [joinC] at ih ⊢; rw [ih]
        | cons x ws => simp only [joinC] at ih ⊢; rw [← ih]; rfl

theorem splitC_word {c : UInt8} {w r : List UInt8} (h : ∀ b ∈ w, b ≠ c) : splitC c (w ++ c :: r) = w :: splitC c r := by
  have e := splitC_at (c := c) (l := w ++ c :: r) (i := w.length) (by simp) (fun k hk => by
    rw [List.getElem?_append_left hk, List.getElem?_eq_getElem hk]
    intro e
    exact h _ (List.getElem_mem hk) (Option.some.inj e))
  rw [e]
  simp

theorem splitC_only {c : UInt8} {w : List UInt8} (h : ∀ b ∈ w, b ≠ c) : splitC c w = [w] := splitC_none fun k e => by
  obtain ⟨hk, e⟩ := List.getElem?_eq_some_iff.1 e
  exact h _ (List.getElem_mem hk) e

theorem split_join {c : UInt8} : ∀ {l : List (List UInt8)}, l ≠ [] → (∀ w ∈ l, ∀ b ∈ w, b ≠ c) → splitC c (joinC c l) = l
  | [], h, _ => absurd rfl h
  | [w], _, h => by simp only [joinC]; exact splitC_only (h w (by simp))
  | w :: x :: l, _, h => by
    rw [joinC_cons (by simp), splitC_word (h w (by simp)), split_join (l := x :: l) (by simp) fun y hy => h y (by simp at hy ⊢; right; exact hy)]

theorem linesOf_snoc (l : List (List UInt8)) (w : List UInt8) : linesOf (l ++ [w]) = linesOf l ++ w ++ [10] := by simp [linesOf]

theorem linesOf_join : ∀ {l : List (List UInt8)}, l ≠ [] → linesOf l = joinC 10 l ++ [10]
  | [], h => absurd rfl h
  | [w], _ => by simp [linesOf, joinC]
  | w :: x :: l, _ => by
    have ih := linesOf_join (l := x :: l) (by simp)
    rw [joinC_cons (by simp), List.append_assoc, List.cons_append, ← ih]
    simp [linesOf]

theorem lines_of {l : List (List UInt8)} (h : ∀ w ∈ l, ∀ b ∈ w, b ≠ 10) : linesP (linesOf l) = some l := by
  by_cases hl : l = []
  · subst hl; rfl
  · unfold linesP
    have e := linesOf_join hl
    rw [e, if_neg (by simp), if_pos (suffix_iff.2 ⟨_, rfl⟩), trimSuffix_snoc, split_join hl h]

theorem of_lines {s : List UInt8} {l : List (List UInt8)} (h : linesP s = some l) : linesOf l = s := by
  unfold linesP at h
  split at h
  · rename_i h0
    cases h; rw [h0]; rfl
  · split at h
    · rename_i h1
      cases h
      obtain ⟨t, rfl⟩ := suffix_iff.1 h1
      rw [trimSuffix_snoc, linesOf_join (splitC_ne _ _), join_split]
    · cases h

theorem words_of {l : List (List UInt8)} (h : l.all wordOk = true) : wordsP (joinC 32 l) = some l := by
  have h32 : ∀ w ∈ l, ∀ b ∈ w, b ≠ 32 := fun w hw b hb e => by
    have := List.all_eq_true.1 h w hw
    simp only [wordOk, Bool.and_eq_true] at this
    have := List.all_eq_true.1 this.2 b hb
    rw [e] at this
    simp [isSeen] at this
  cases l with
  | nil => rfl
  | cons w ws =>
    have hw := List.all_eq_true.1 h w (by simp)
    have hne : joinC 32 (w :: ws) ≠ [] := by
      simp only [wordOk, Bool.and_eq_true] at hw
      cases w with
      | nil => simp at hw
      | cons b w => cases ws <;> simp [joinC]
    unfold wordsP
    rw [if_neg hne, split_join (by simp) h32, if_pos h]

theorem of_words {s : List UInt8} {l : List (List UInt8)} (h : wordsP s = some l) : joinC 32 l = s := by
  unfold wordsP at h
  split at h
  · rename_i h0
    cases h; rw [h0]; rfl
  · split at h
    · cases h; exact join_split 32 s
    · cases h

theorem joinC_take_le (c : UInt8) : ∀ (l : List (List UInt8)) (j : Nat), (joinC c (l.take j)).length ≤ (joinC c l).length
  | [], j => by simp [joinC]
  | w :: ws, 0 => by simp [joinC]
  | [w], j + 1 => by simp [joinC]
  | w :: x :: ws, j + 1 => by
    have ih := joinC_take_le c (x :: ws) j
    rw [List.take_succ_cons]
    cases hj : (x :: ws).take j with
    | nil => simp [joinC]
    | cons y ys =>
      rw [hj] at ih
      simp only [joinC, List.length_append, List.length_cons] at ih ⊢
      omega

theorem joinC_next (c : UInt8) {l : List (List UInt8)} {j : Nat} (h : j < l.length) : joinC c (l.take (j + 1)) = (if j = 0 then joinC c (l.take j) else joinC c (l.take j) ++ [c]) ++ l[j] := by
  have htk : l.take (j + 1) = l.take j ++ [l[j]] := by rw [List.take_add_one, List.getElem?_eq_getElem h]; rfl
  rw [htk]
  by_cases h0 : j = 0
  · subst h0; simp [joinC]
  · rw [if_neg h0, joinC_snoc c _ _ (by simp; exact ⟨h0, fun e => by rw [e] at h; simp at h⟩)]; simp

theorem linesOf_next {l : List (List UInt8)} {i : Nat} (h : i < l.length) : linesOf (l.take (i + 1)) = linesOf (l.take i) ++ l[i] ++ [10] := by
  have htk : l.take (i + 1) = l.take i ++ [l[i]] := by rw [List.take_add_one, List.getElem?_eq_getElem h]; rfl
  rw [htk, linesOf_snoc]

theorem linesOf_take_le (l : List (List UInt8)) (i : Nat) : (linesOf (l.take i)).length ≤ (linesOf l).length := by
  have : linesOf l = linesOf (l.take i) ++ linesOf (l.drop i) := by
    unfold linesOf
    rw [← List.flatMap_append, List.take_append_drop]
  rw [this]; simp

end Go.Cl

namespace Go.Cl

structure Case where
  send : Bool
  chan : Int
  v : Int
  deriving DecidableEq, Inhabited

structure OpV where
  kind : Int
  n : Int
  v : Int
  wait : Int
  cases : List Case
  deriving DecidableEq, Inhabited

def Any : Nat → Prop := fun _ => True

end Go.Cl

namespace Go.Cl
open Go
set_option linter.unusedSimpArgs false
set_option linter.unusedVariables false

abbrev Wd := List UInt8
abbrev wRun : Wd := [114, 117, 110]
abbrev wLock : Wd := [108, 111, 99, 107]
abbrev wUnlock : Wd := [117, 110, 108, 111, 99, 107]
abbrev wSend : Wd := [115, 101, 110, 100]
abbrev wRecv : Wd := [114, 101, 99, 118]
abbrev wClose : Wd := [99, 108, 111, 115, 101]
abbrev wSelect : Wd := [115, 101, 108, 101, 99, 116]
abbrev wLoop : Wd := [108, 111, 111, 112]
abbrev wEnd : Wd := [101, 110, 100]

def isWait (k : Int) : Bool := decide (k = 4) || decide (k = 5) || decide (k = 7)
def leastOf (k : Int) : Int := if k = 1 ∨ k = 8 then 1 else 0
def mostOf (k : Int) : Int := if k = 1 then 1000 else if 2 ≤ k ∧ k ≤ 6 then 7 else if k = 8 then 32 else 0
def wordOf (k : Int) : Wd := if k = 1 then wRun else if k = 2 then wLock else if k = 3 then wUnlock else if k = 4 then wSend else if k = 5 then wRecv else if k = 6 then wClose else if k = 7 then wSelect else if k = 8 then wLoop else if k = 9 then wEnd else []
def kindOf (w : Wd) : Int := if w = wRun then 1 else if w = wLock then 2 else if w = wUnlock then 3 else if w = wSend then 4 else if w = wRecv then 5 else if w = wClose then 6 else if w = wSelect then 7 else if w = wLoop then 8 else if w = wEnd then 9 else 0

theorem kinds9 {k : Int} (h0 : 1 ≤ k) (h1 : k ≤ 9) : k = 1 ∨ k = 2 ∨ k = 3 ∨ k = 4 ∨ k = 5 ∨ k = 6 ∨ k = 7 ∨ k = 8 ∨ k = 9 := by omega

theorem kind_word {k : Int} (h0 : 1 ≤ k) (h1 : k ≤ 9) : kindOf (wordOf k) = k := by
  rcases kinds9 h0 h1 with rfl | rfl | rfl | rfl | rfl | rfl | rfl | rfl | rfl <;> rfl

theorem word_ok {k : Int} (h0 : 1 ≤ k) (h1 : k ≤ 9) : wordOk (wordOf k) = true := by
  rcases kinds9 h0 h1 with rfl | rfl | rfl | rfl | rfl | rfl | rfl | rfl | rfl <;> rfl

theorem kind_le (w : Wd) : 0 ≤ kindOf w ∧ kindOf w ≤ 9 := by
  unfold kindOf
  repeat' split
  all_goals omega

theorem word_kind {w : Wd} (h : 1 ≤ kindOf w) : wordOf (kindOf w) = w := by
  unfold kindOf at h ⊢
  by_cases h1 : w = wRun
  · subst h1; rfl
  by_cases h2 : w = wLock
  · subst h2; rfl
  by_cases h3 : w = wUnlock
  · subst h3; rfl
  by_cases h4 : w = wSend
  · subst h4; rfl
  by_cases h5 : w = wRecv
  · subst h5; rfl
  by_cases h6 : w = wClose
  · subst h6; rfl
  by_cases h7 : w = wSelect
  · subst h7; rfl
  by_cases h8 : w = wLoop
  · subst h8; rfl
  by_cases h9 : w = wEnd
  · subst h9; rfl
  · rw [if_neg h1, if_neg h2, if_neg h3, if_neg h4, if_neg h5, if_neg h6, if_neg h7, if_neg h8, if_neg h9] at h
    omega

/-! ### may it be -/

def caseBad (c : Case) : Bool := decide (c.chan < 0) || decide (8 ≤ c.chan) || (!c.send && !decide (c.v = 0))

def casesGo : List Case → List Case → Int
  | _, [] => 0
  | pre, c :: r => if caseBad c then 1 else if pre.any (fun x => decide (x.chan = c.chan)) then 6 else casesGo (pre ++ [c]) r

def casesP (l : List Case) : Int := if l.length < 1 ∨ 4 < l.length then 18 else casesGo [] l

def opCheckP (x : OpV) : Int :=
  if x.kind < 1 ∨ 9 < x.kind then 3
  else if x.n < leastOf x.kind ∨ mostOf x.kind < x.n ∨ (x.kind ≠ 4 ∧ x.v ≠ 0) then 1
  else if (isWait x.kind = false ∧ x.wait ≠ 0) ∨ x.wait < -1 ∨ 1000 < x.wait then 1
  else if x.kind = 7 then casesP x.cases
  else if x.cases ≠ [] then 1 else 0

theorem casesGo_valid : ∀ (l pre : List Case), casesGo pre l = 0 → ∀ c ∈ l, caseBad c = false
  | [], _, _, c, hc => by simp at hc
  | d :: r, pre, h, c, hc => by
    unfold casesGo at h
    by_cases hb : caseBad d = true
    · rw [if_pos hb] at h; omega
    · rw [if_neg hb] at h
      split at h
      · omega
      · rcases List.mem_cons.1 hc with rfl | hc
        · simpa using hb
        · exact casesGo_valid r _ h c hc

/-! ### in words -/

def waitW (n : Int) : Wd := if n = -1 then [45] else itoa n
def told (c : Case) : List Wd := if c.send then [wSend, itoa c.chan, itoa c.v] else [wRecv, itoa c.chan]
def opWords (x : OpV) : List Wd := wordOf x.kind ::
  (if x.kind = 4 then [itoa x.n, itoa x.v, waitW x.wait] else if x.kind = 5 then [itoa x.n, waitW x.wait] else if x.kind = 7 then waitW x.wait :: x.cases.flatMap told else if x.kind = 9 then [] else [itoa x.n])
def opText (x : OpV) : Wd := if x.kind < 1 ∨ 9 < x.kind then [] else joinC 32 (opWords x)

/-! ### out of words -/

def op0 : OpV := ⟨0, 0, 0, 0, []⟩
def clamp (n : Int) : Int := max (min n 8) (-1)
def numR (e : Int) (a : Wd) : Int × Int := if e = 0 then numP a else (0, e)
def waitR (e : Int) (a : Wd) : Int × Int := if e = 0 then (if a = [45] then (-1, 0) else if (numP a).2 = 0 ∧ (numP a).1 < 0 then ((numP a).1, 2) else numP a) else (0, e)

def runP : List Wd → List Case → Int → List Case × Int
  | w :: a :: b :: r, acc, e =>
    if w = wSend then runP r (acc ++ [⟨true, clamp (numR e a).1, (numR (numR e a).2 b).1⟩]) (numR (numR e a).2 b).2
    else runP (b :: r) (acc ++ [⟨false, clamp (numR e a).1, 0⟩]) (numR e a).2
  | [w, a], acc, e => if w = wSend then (acc, e) else (acc ++ [⟨false, clamp (numR e a).1, 0⟩], (numR e a).2)
  | [_], acc, e => (acc, e)
  | [], acc, e => (acc, e)

def shapedP : List Wd → Bool
  | w :: a :: b :: r => if w = wSend then shapedP r else if w = wRecv then shapedP (b :: r) else false
  | [w, _] => decide (w = wRecv)
  | [_] => false
  | [] => true

def countP (k : Int) (l : List Wd) : Bool :=
  if k = 4 then decide (l.length = 3) else if k = 5 then decide (l.length = 2) else if k = 7 then (match l with | [] => false | _ :: r => shapedP r) else if k = 9 then decide (l.length = 0) else decide (l.length = 1)

def at_ (l : List Wd) (i : Nat) : Wd := (l[i]?).getD []

def readP (k : Int) (l : List Wd) : OpV × Int :=
  if k = 4 then
    let x := numR 0 (at_ l 0)
    let y := numR x.2 (at_ l 1)
    let z := waitR y.2 (at_ l 2)
    (⟨4, x.1, y.1, z.1, []⟩, z.2)
  else if k = 5 then
    let x := numR 0 (at_ l 0)
    let z := waitR x.2 (at_ l 1)
    (⟨5, x.1, 0, z.1, []⟩, z.2)
  else if k = 7 then
    let z := waitR 0 (at_ l 0)
    let q := runP l.tail [] z.2
    (⟨7, 0, 0, z.1, q.1⟩, q.2)
  else if k = 9 then (⟨9, 0, 0, 0, []⟩, 0)
  else
    let x := numR 0 (at_ l 0)
    (⟨k, x.1, 0, 0, []⟩, x.2)

def finP (q : OpV × Int) : OpV × Int := if q.2 = 0 then (if opCheckP q.1 = 0 then (q.1, 0) else (op0, opCheckP q.1)) else (op0, q.2)

def parseW (w : Wd) (l : List Wd) : OpV × Int := if kindOf w < 1 ∨ countP (kindOf w) l = false then (op0, 2) else finP (readP (kindOf w) l)

def parseP (s : Wd) : OpV × Int :=
  match wordsP s with
  | none => (op0, 2)
  | some [] => (op0, 2)
  | some (w :: l) => parseW w l

end Go.Cl

namespace Go.Cl
open Go
set_option linter.unusedSimpArgs false
set_option linter.unusedVariables false

theorem dig_seen {t : List UInt8} (h : t.all isDig = true) : t.all isSeen = true := by
  rw [List.all_eq_true] at *
  intro b hb
  have := h b hb
  simp [isDig] at this
  simp [isSeen]
  omega

theorem itoa_ok {n : Int} (h0 : -9223372036854775808 ≤ n) (h1 : n ≤ 9223372036854775807) : wordOk (itoa n) = true := by
  by_cases hn : n < 0
  · obtain ⟨m, rfl⟩ : ∃ m : Nat, n = -(m : Int) := ⟨n.natAbs, by omega⟩
    rw [itoa_neg (by omega) (by omega)]
    have := dig_seen (dec_dig m)
    simp only [wordOk, List.all_cons, this]
    rfl
  · obtain ⟨m, rfl⟩ := Int.eq_ofNat_of_zero_le (by omega : 0 ≤ n)
    rw [itoa_pos (by omega)]
    have := dig_seen (dec_dig m)
    have h2 := dec_ne m
    simp only [wordOk, this]
    cases hd : Lib.decDigits m with
    | nil => exact absurd hd h2
    | cons b l => rfl

theorem itoa_dash {n : Int} (h0 : -9223372036854775808 ≤ n) (h1 : n ≤ 9223372036854775807) : itoa n ≠ [45] := fun e => by
  have h2 := numP_itoa h0 h1
  rw [e] at h2
  have h3 : numP [45] = (0, 2) := by decide
  rw [h3] at h2
  simp at h2

theorem waitW_ok {n : Int} (h0 : -1 ≤ n) (h1 : n ≤ 1000) : wordOk (waitW n) = true := by
  unfold waitW
  split
  · rfl
  · exact itoa_ok (by omega) (by omega)

theorem waitR_W {n : Int} (h0 : -1 ≤ n) (h1 : n ≤ 1000) : waitR 0 (waitW n) = (n, 0) := by
  unfold waitR waitW
  by_cases hn : n = -1
  · subst hn; rfl
  · have h2 : itoa n ≠ [45] := itoa_dash (by omega) (by omega)
    have h3 := numP_itoa (n := n) (by omega) (by omega)
    simp only [if_neg hn, if_true, if_neg h2, h3]
    rw [if_neg (by omega)]

theorem waitR_back {w : Wd} (h : (waitR 0 w).2 = 0) : waitW (waitR 0 w).1 = w := by
  unfold waitR at h ⊢
  rw [if_pos rfl] at h ⊢
  by_cases h1 : w = [45]
  · subst h1; rfl
  · rw [if_neg h1] at h ⊢
    split at h
    · simp at h
    · rename_i h2
      rw [if_neg h2]
      have h3 : ¬ (numP w).1 = -1 := fun e => h2 ⟨h, by omega⟩
      unfold waitW
      rw [if_neg h3, itoa_numP h]

theorem numR_itoa {n : Int} (h0 : -9223372036854775808 ≤ n) (h1 : n ≤ 9223372036854775807) : numR 0 (itoa n) = (n, 0) := by
  unfold numR
  rw [if_pos rfl, numP_itoa h0 h1]

theorem numR_err {e : Int} (he : e ≠ 0) (a : Wd) : numR e a = (0, e) := by unfold numR; rw [if_neg he]
theorem numR_ok {e : Int} {a : Wd} (h : (numR e a).2 = 0) : e = 0 ∧ numR e a = numP a ∧ (numP a).2 = 0 := by
  unfold numR at h ⊢
  by_cases he : e = 0
  · rw [if_pos he] at h ⊢; exact ⟨he, rfl, h⟩
  · rw [if_neg he] at h; exact absurd h he
theorem waitR_err {e : Int} (he : e ≠ 0) (a : Wd) : waitR e a = (0, e) := by unfold waitR; rw [if_neg he]
theorem waitR_ok {e : Int} {a : Wd} (h : (waitR e a).2 = 0) : e = 0 := by
  by_cases he : e = 0
  · exact he
  · rw [waitR_err he] at h; exact h

theorem clamp_id {n : Int} (h0 : 0 ≤ n) (h1 : n < 8) : clamp n = n := by unfold clamp; omega
theorem clamp_of {n : Int} (h0 : 0 ≤ clamp n) (h1 : clamp n < 8) : clamp n = n := by unfold clamp at *; omega

theorem caseBad_not {c : Case} (h : caseBad c = false) : 0 ≤ c.chan ∧ c.chan < 8 ∧ (c.send = false → c.v = 0) := by
  simp [caseBad] at h
  exact ⟨h.1.1, h.1.2, h.2⟩

theorem runP_send {a b : Wd} {r : List Wd} {acc : List Case} {e : Int} : runP (wSend :: a :: b :: r) acc e = runP r (acc ++ [⟨true, clamp (numR e a).1, (numR (numR e a).2 b).1⟩]) (numR (numR e a).2 b).2 := by
  rw [runP, if_pos rfl]
theorem runP_other {w a : Wd} {r : List Wd} {acc : List Case} {e : Int} (h : w ≠ wSend) : runP (w :: a :: r) acc e = runP r (acc ++ [⟨false, clamp (numR e a).1, 0⟩]) (numR e a).2 := by
  cases r with
  | nil => rw [runP, if_neg h, runP]
  | cons b r => rw [runP, if_neg h]
theorem recv_send : wRecv ≠ wSend := by decide
theorem shaped_send {a b : Wd} {r : List Wd} : shapedP (wSend :: a :: b :: r) = shapedP r := by rw [shapedP, if_pos rfl]
theorem shaped_recv {a : Wd} {r : List Wd} : shapedP (wRecv :: a :: r) = shapedP r := by
  cases r with
  | nil => rw [shapedP, shapedP]; rfl
  | cons b r => rw [shapedP, if_neg recv_send, if_pos rfl]

theorem shaped_cases {l : List Wd} (h : shapedP l = true) : l = [] ∨ (∃ a b r, l = wSend :: a :: b :: r ∧ shapedP r = true) ∨ (∃ a r, l = wRecv :: a :: r ∧ shapedP r = true) := by
  match l, h with
  | [], _ => exact .inl rfl
  | [w], h => rw [shapedP] at h; cases h
  | [w, a], h =>
    rw [shapedP] at h
    have hw : w = wRecv := by simpa using h
    subst hw
    exact .inr (.inr ⟨a, [], rfl, by rw [shapedP]⟩)
  | w :: a :: b :: r, h =>
    rw [shapedP] at h
    by_cases h1 : w = wSend
    · rw [if_pos h1] at h
      subst h1
      exact .inr (.inl ⟨a, b, r, rfl, h⟩)
    · rw [if_neg h1] at h
      by_cases h2 : w = wRecv
      · rw [if_pos h2] at h
        subst h2
        exact .inr (.inr ⟨a, b :: r, rfl, h⟩)
      · rw [if_neg h2] at h; cases h

theorem shaped_told : ∀ (cs : List Case), shapedP (cs.flatMap told) = true
  | [] => by rw [List.flatMap_nil, shapedP]
  | c :: cs => by
    have ih := shaped_told cs
    rw [List.flatMap_cons]
    unfold told
    cases hs : c.send with
    | true => exact shaped_send.trans ih
    | false => exact shaped_recv.trans ih

theorem run_told : ∀ (cs acc : List Case), (∀ c ∈ cs, caseBad c = false ∧ -9223372036854775808 ≤ c.v ∧ c.v ≤ 9223372036854775807) → runP (cs.flatMap told) acc 0 = (acc ++ cs, 0)
  | [], acc, _ => by rw [List.flatMap_nil, runP, List.append_nil]
  | c :: cs, acc, h => by
    obtain ⟨h1, h2, h3⟩ := h c (by simp)
    obtain ⟨c0, c8, cv⟩ := caseBad_not h1
    have ih := run_told cs (acc ++ [c]) fun d hd => h d (by simp [hd])
    have e1 := numR_itoa (n := c.chan) (by omega) (by omega)
    have e2 := numR_itoa h2 h3
    obtain ⟨send, chan, v⟩ := c
    simp only at *
    rw [List.flatMap_cons]
    cases send with
    | true =>
      rw [show told ⟨true, chan, v⟩ = [wSend, itoa chan, itoa v] from rfl]
      refine runP_send.trans ?_
      rw [e1]
      simp only
      rw [e2]
      simp only
      rw [clamp_id c0 c8]
      refine ih.trans ?_
      rw [List.append_assoc]
      rfl
    | false =>
      rw [show told ⟨false, chan, v⟩ = [wRecv, itoa chan] from rfl]
      refine (runP_other recv_send).trans ?_
      rw [e1]
      simp only
      rw [clamp_id c0 c8]
      have hv := cv rfl
      subst hv
      refine ih.trans ?_
      rw [List.append_assoc]
      rfl

theorem runP_err : ∀ (n : Nat) (l : List Wd) (acc : List Case) (e : Int), l.length ≤ n → e ≠ 0 → (runP l acc e).2 = e
  | _, [], acc, e, _, _ => by rw [runP]
  | _, [w], acc, e, _, _ => by rw [runP]
  | _, [w, a], acc, e, _, he => by
    rw [runP]
    split
    · rfl
    · rw [numR_err he]
  | 0, _ :: _ :: _ :: _, _, _, hn, _ => by simp at hn
  | n + 1, w :: a :: b :: r, acc, e, hn, he => by
    simp at hn
    rw [runP]
    split
    · rw [numR_err he]
      simp only
      rw [numR_err he]
      exact runP_err n r _ e (by omega) he
    · rw [numR_err he]
      exact runP_err n (b :: r) _ e (by simp; omega) he

theorem run_back : ∀ (n : Nat) (l : List Wd) (acc : List Case), l.length ≤ n → shapedP l = true → (runP l acc 0).2 = 0 →
    ∃ ds, (runP l acc 0).1 = acc ++ ds ∧ ((∀ c ∈ ds, caseBad c = false) → ds.flatMap told = l)
  | n, l, acc, hn, hs, h => by
    rcases shaped_cases hs with rfl | ⟨a, b, r, rfl, hr⟩ | ⟨a, r, rfl, hr⟩
    · exact ⟨[], by rw [runP, List.append_nil], fun _ => rfl⟩
    · cases n with
      | zero => simp at hn
      | succ n =>
        rw [runP_send] at h ⊢
        have e2 : (numR (numR 0 a).2 b).2 = 0 := by
          by_cases he : (numR (numR 0 a).2 b).2 = 0
          · exact he
          · rw [runP_err _ _ _ _ (Nat.le_refl _) he] at h; exact h
        obtain ⟨e1, f2, g2⟩ := numR_ok e2
        obtain ⟨_, f1, g1⟩ := numR_ok e1
        rw [e2] at h ⊢
        rw [f2, f1] at h ⊢
        obtain ⟨ds, h1, h2⟩ := run_back n r _ (by simp at hn; omega) hr h
        refine ⟨_ :: ds, by rw [h1, List.append_assoc]; rfl, fun hb => ?_⟩
        rw [List.flatMap_cons, h2 fun c hc => hb c (by simp [hc])]
        obtain ⟨c0, c8, _⟩ := caseBad_not (hb _ List.mem_cons_self)
        simp only at c0 c8
        simp only [told, if_true]
        rw [clamp_of c0 c8, itoa_numP g1, itoa_numP g2]
        rfl
    · cases n with
      | zero => simp at hn
      | succ n =>
        rw [runP_other recv_send] at h ⊢
        have e1 : (numR 0 a).2 = 0 := by
          by_cases he : (numR 0 a).2 = 0
          · exact he
          · rw [runP_err _ _ _ _ (Nat.le_refl _) he] at h; exact h
        obtain ⟨_, f1, g1⟩ := numR_ok e1
        rw [e1] at h ⊢
        rw [f1] at h ⊢
        obtain ⟨ds, h1, h2⟩ := run_back n r _ (by simp at hn; omega) hr h
        refine ⟨_ :: ds, by rw [h1, List.append_assoc]; rfl, fun hb => ?_⟩
        rw [List.flatMap_cons, h2 fun c hc => hb c (by simp [hc])]
        obtain ⟨c0, c8, _⟩ := caseBad_not (hb _ List.mem_cons_self)
        simp only at c0 c8
        simp only [told]
        rw [clamp_of c0 c8, itoa_numP g1]
        rfl

/-- numbers of 64 bits -/
def OpV.fine (x : OpV) : Prop := (-9223372036854775808 ≤ x.v ∧ x.v ≤ 9223372036854775807) ∧ ∀ c ∈ x.cases, -9223372036854775808 ≤ c.v ∧ c.v ≤ 9223372036854775807

structure OpOk (x : OpV) : Prop where
  k0 : 1 ≤ x.kind
  k9 : x.kind ≤ 9
  n0 : leastOf x.kind ≤ x.n
  n1 : x.n ≤ mostOf x.kind
  v : x.kind ≠ 4 → x.v = 0
  w : isWait x.kind = false → x.wait = 0
  w0 : -1 ≤ x.wait
  w1 : x.wait ≤ 1000
  c7 : x.kind = 7 → casesP x.cases = 0
  c : x.kind ≠ 7 → x.cases = []

theorem opOk {x : OpV} (h : opCheckP x = 0) : OpOk x := by
  unfold opCheckP at h
  split at h
  · omega
  · rename_i h1
    split at h
    · omega
    · rename_i h2
      split at h
      · omega
      · rename_i h3
        simp only [not_or, not_and, Int.not_lt] at h1 h2 h3
        refine ⟨h1.1, h1.2, h2.1, h2.2.1, fun k => by simpa using h2.2.2 k, fun k => by simpa using h3.1 k, h3.2.1, h3.2.2, fun k => ?_, fun k => ?_⟩
        · rw [if_pos k] at h; exact h
        · rw [if_neg k] at h
          split at h
          · omega
          · rename_i h4; simpa using h4

theorem mostOf_le (k : Int) : mostOf k ≤ 1000 := by unfold mostOf; repeat' split; all_goals omega
theorem leastOf_ge (k : Int) : 0 ≤ leastOf k := by unfold leastOf; split <;> omega

theorem cases_valid {l : List Case} (h : casesP l = 0) : ∀ c ∈ l, caseBad c = false := by
  unfold casesP at h
  split at h
  · omega
  · exact casesGo_valid _ _ h

theorem opWords_ok {x : OpV} (h : opCheckP x = 0) (hf : x.fine) : (opWords x).all wordOk = true := by
  have k := opOk h
  have m := mostOf_le x.kind
  have l := leastOf_ge x.kind
  have hn : wordOk (itoa x.n) = true := itoa_ok (by have := k.n0; omega) (by have := k.n1; omega)
  have hv : wordOk (itoa x.v) = true := itoa_ok hf.1.1 hf.1.2
  have hw : wordOk (waitW x.wait) = true := waitW_ok k.w0 k.w1
  unfold opWords
  rw [List.all_cons, word_ok k.k0 k.k9, Bool.true_and]
  repeat' split
  · simp [hn, hv, hw]
  · simp [hn, hw]
  · rename_i h7
    have hc := cases_valid (k.c7 h7)
    rw [List.all_cons, hw, Bool.true_and, List.all_eq_true]
    intro w hm
    obtain ⟨c, hc1, hc2⟩ := List.mem_flatMap.1 hm
    have hb := caseBad_not (hc c hc1)
    have i1 : wordOk (itoa c.chan) = true := itoa_ok (by omega) (by omega)
    have i2 : wordOk (itoa c.v) = true := itoa_ok (hf.2 c hc1).1 (hf.2 c hc1).2
    unfold told at hc2
    split at hc2
    · simp at hc2
      rcases hc2 with rfl | rfl | rfl
      · rfl
      · exact i1
      · exact i2
    · simp at hc2
      rcases hc2 with rfl | rfl
      · rfl
      · exact i1
  · rfl
  · simp [hn]

theorem parse_text {x : OpV} (h : opCheckP x = 0) (hf : x.fine) : parseP (opText x) = (x, 0) := by
  have k := opOk h
  have m := mostOf_le x.kind
  have l := leastOf_ge x.kind
  have hn : numR 0 (itoa x.n) = (x.n, 0) := numR_itoa (by have := k.n0; omega) (by have := k.n1; omega)
  have hv : numR 0 (itoa x.v) = (x.v, 0) := numR_itoa hf.1.1 hf.1.2
  have hw : waitR 0 (waitW x.wait) = (x.wait, 0) := waitR_W k.w0 k.w1
  have kk := kind_word k.k0 k.k9
  have e1 : opText x = joinC 32 (opWords x) := by
    unfold opText
    rw [if_neg (by have := k.k0; have := k.k9; omega)]
  unfold parseP
  rw [e1, words_of (opWords_ok h hf)]
  show parseW _ _ = _
  have fin : ∀ q : OpV × Int, q = (x, 0) → finP q = (x, 0) := fun q hq => by
    subst hq
    unfold finP
    rw [if_pos rfl, if_pos h]
  unfold parseW
  rw [kk]
  have n1 : ¬ x.kind < 1 := by have := k.k0; omega
  obtain ⟨kind, n, v, wait, cases⟩ := x
  simp only at *
  by_cases h4 : kind = 4
  · subst h4
    have := k.w
    have hc : cases = [] := k.c (by simp)
    subst hc
    rw [if_neg (by simp [countP])]
    refine fin _ ?_
    simp [readP, at_, hn, hv, hw]
  · by_cases h5 : kind = 5
    · subst h5
      have hc : cases = [] := k.c (by simp)
      have h0 : v = 0 := k.v (by simp)
      subst hc h0
      rw [if_neg (by simp [countP])]
      refine fin _ ?_
      simp [readP, at_, hn, hw]
    · by_cases h7 : kind = 7
      · subst h7
        have h0 : v = 0 := k.v (by simp)
        have h0' : n = 0 := by
          have a := k.n0
          have b := k.n1
          simp [leastOf, mostOf] at a b
          omega
        subst h0 h0'
        have hs := shaped_told cases
        have hr := run_told cases [] fun c hc => ⟨cases_valid (k.c7 rfl) c hc, hf.2 c hc⟩
        rw [if_neg (by simp [countP, hs])]
        refine fin _ ?_
        simp [readP, at_, hw, hr]
      · have hc : cases = [] := k.c h7
        have h0 : v = 0 := k.v h4
        have hw' : isWait kind = false := by simp [isWait, h4, h5, h7]
        have h0' : wait = 0 := k.w hw'
        subst hc h0 h0'
        by_cases h9 : kind = 9
        · subst h9
          have h0' : n = 0 := by
            have a := k.n0
            have b := k.n1
            simp [leastOf, mostOf] at a b
            omega
          subst h0'
          rw [if_neg (by simp [countP])]
          refine fin _ ?_
          simp [readP]
        · rw [if_neg (by simp [countP, h4, h5, h7, h9, n1])]
          refine fin _ ?_
          simp [readP, at_, h4, h5, h7, h9, hn]

theorem at1 {l : List Wd} (h : l.length = 1) : l = [at_ l 0] := by
  match l, h with
  | [a], _ => rfl
theorem at2 {l : List Wd} (h : l.length = 2) : l = [at_ l 0, at_ l 1] := by
  match l, h with
  | [a, b], _ => rfl
theorem at3 {l : List Wd} (h : l.length = 3) : l = [at_ l 0, at_ l 1, at_ l 2] := by
  match l, h with
  | [a, b, c], _ => rfl

theorem text_read {k : Int} {l : List Wd} (h0 : 1 ≤ k) (h9 : k ≤ 9) (hc : countP k l = true) (he : (readP k l).2 = 0) (ho : opCheckP (readP k l).1 = 0) : opWords (readP k l).1 = wordOf k :: l := by
  have ok := opOk ho
  unfold readP at *
  unfold countP at hc
  by_cases h4 : k = 4
  · subst h4
    simp only [if_true, decide_eq_true_eq] at *
    conv => rhs; rw [at3 hc]
    have e3 := waitR_ok he
    obtain ⟨e2, f2, g2⟩ := numR_ok e3
    obtain ⟨_, f1, g1⟩ := numR_ok e2
    rw [e3] at he ⊢
    have b3 := waitR_back he
    simp only [opWords, if_true]
    rw [b3, f2, f1, itoa_numP g1, itoa_numP g2]
  · rw [if_neg h4] at *
    by_cases h5 : k = 5
    · subst h5
      simp only [if_true, decide_eq_true_eq] at *
      conv => rhs; rw [at2 hc]
      have e3 := waitR_ok he
      obtain ⟨_, f1, g1⟩ := numR_ok e3
      rw [e3] at he ⊢
      have b3 := waitR_back he
      simp [opWords]
      rw [b3, f1, itoa_numP g1]
      simp [at_]
    · rw [if_neg h5] at *
      by_cases h7 : k = 7
      · subst h7
        simp only [if_true] at *
        cases l with
        | nil => cases hc
        | cons w r =>
          simp only [at_, List.getElem?_cons_zero, Option.getD_some, List.tail_cons] at *
          have e3 : (waitR 0 w).2 = 0 := by
            by_cases hz : (waitR 0 w).2 = 0
            · exact hz
            · rw [runP_err _ _ _ _ (Nat.le_refl _) hz] at he; exact he
          rw [e3] at he ho ok ⊢
          obtain ⟨ds, d1, d2⟩ := run_back _ r [] (Nat.le_refl _) hc he
          have d3 := cases_valid (ok.c7 rfl)
          rw [d1, List.nil_append] at *
          have b3 := waitR_back e3
          simp [opWords]
          exact ⟨b3, d2 d3⟩
      · rw [if_neg h7] at *
        by_cases hk : k = 9
        · subst hk
          simp only [if_true, decide_eq_true_eq] at *
          rw [List.eq_nil_of_length_eq_zero hc]
          rfl
        · rw [if_neg hk] at *
          simp only [decide_eq_true_eq] at *
          obtain ⟨_, f1, g1⟩ := numR_ok he
          conv => rhs; rw [at1 hc]
          simp only [opWords, if_neg h4, if_neg h5, if_neg h7, if_neg hk, f1, itoa_numP g1]

theorem readP_kind (k : Int) (l : List Wd) : (readP k l).1.kind = k := by
  unfold readP
  repeat' split
  all_goals simp_all

theorem text_parse {s : Wd} {o : OpV} (h : parseP s = (o, 0)) : opText o = s ∧ opCheckP o = 0 := by
  unfold parseP at h
  cases hw : wordsP s with
  | none => rw [hw] at h; simp at h
  | some l =>
    rw [hw] at h
    cases l with
    | nil => simp at h
    | cons w l =>
      simp only [parseW] at h
      split at h
      · simp at h
      · rename_i hk
        simp only [not_or, Int.not_lt, Bool.not_eq_false] at hk
        unfold finP at h
        split at h
        · rename_i he
          split at h
          · rename_i ho
            simp only [Prod.mk.injEq, and_true] at h
            subst h
            refine ⟨?_, ho⟩
            have k9 := (kind_le w).2
            have t := text_read hk.1 k9 hk.2 he ho
            unfold opText
            rw [readP_kind, if_neg (by omega), t, word_kind hk.1]
            exact of_words hw
          · simp only [Prod.mk.injEq] at h
            rename_i ho
            exact absurd h.2 ho
        · simp only [Prod.mk.injEq] at h
          rename_i he
          exact absurd h.2 he

theorem text_inj {x y : OpV} (hx : opCheckP x = 0) (hy : opCheckP y = 0) (fx : x.fine) (fy : y.fine) : opText x = opText y ↔ x = y :=
  ⟨fun h => by
    have a := parse_text hx fx
    rw [h, parse_text hy fy] at a
    simpa using a.symm, fun h => by rw [h]⟩

end Go.Cl
