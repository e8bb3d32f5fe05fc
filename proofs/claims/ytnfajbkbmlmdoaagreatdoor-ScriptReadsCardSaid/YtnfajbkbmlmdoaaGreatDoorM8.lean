/-
  Texts laid together: PWord PWordS PWordN PWordD PWordJ PScr.
-/
import Derived.Test.YtnfajbkbmlmdoaaGreatDoorM4

namespace Go.Cl
open Go
set_option linter.unusedSimpArgs false
set_option linter.unusedVariables false

def isLow (b : UInt8) : Bool := decide (97 ≤ b.toNat) && decide (b.toNat ≤ 122)
def isDig (b : UInt8) : Bool := decide (48 ≤ b.toNat) && decide (b.toNat ≤ 57)
def isSeen (b : UInt8) : Bool := decide (33 ≤ b.toNat) && decide (b.toNat ≤ 126)

def lows : List UInt8 := [97, 98, 99, 100, 101, 102, 103, 104, 105, 106, 107, 108, 109, 110, 111, 112, 113, 114, 115, 116, 117, 118, 119, 120, 121, 122]
def digits : List UInt8 := [48, 49, 50, 51, 52, 53, 54, 55, 56, 57]

theorem u8_forall {p : UInt8 → Prop} (h : ∀ n : Fin 256, p (UInt8.ofNat n.val)) (b : UInt8) : p b := by
  have := h ⟨b.toNat, b.toNat_lt⟩
  simpa using this

theorem lows_has (b : UInt8) : lows.contains b = isLow b := by
  revert b
  exact u8_forall (by decide +kernel)
theorem digits_has (b : UInt8) : digits.contains b = isDig b := by
  revert b
  exact u8_forall (by decide +kernel)

theorem dropWhile_nil {α : Type} {p : α → Bool} : ∀ {l : List α}, l.dropWhile p = [] ↔ l.all p = true
  | [] => by simp
  | b :: l => by
    by_cases h : p b = true
    · simp [List.dropWhile, h, dropWhile_nil (l := l)]
    · have h' : p b = false := by simpa using h
      simp [List.dropWhile, h']

/-- nothing is left: all are of the set -/
theorem trimS_nil {l cs : List UInt8} : Lib.trimS l cs = [] ↔ l.all (fun b => cs.contains b) = true := by
  have mem : ∀ (b : UInt8), b ∈ (l.reverse.dropWhile (cs.contains ·)) → b ∈ l := fun b hb => by
    have := (List.dropWhile_sublist (l := l.reverse) (cs.contains ·)).subset hb
    simpa using this
  unfold Lib.trimS Lib.trimLeftS Lib.trimRightS
  rw [dropWhile_nil]
  constructor
  · intro h
    have h2 : ∀ b ∈ l.reverse.dropWhile (cs.contains ·), cs.contains b = true := fun b hb => by
      have := List.all_eq_true.1 h b (by simpa using hb)
      exact this
    have h3 : l.reverse.dropWhile (cs.contains ·) = [] := by
      cases hd : l.reverse.dropWhile (cs.contains ·) with
      | nil => rfl
      | cons x t =>
        have hx := List.head?_dropWhile_not (cs.contains ·) l.reverse
        rw [hd] at hx
        simp at hx
        have := h2 x (by rw [hd]; simp)
        simp at this
        exact absurd this hx
    rw [dropWhile_nil] at h3
    simpa using h3
  · intro h
    have h3 : l.reverse.dropWhile (cs.contains ·) = [] := by rw [dropWhile_nil]; simpa using h
    rw [h3]; rfl

/-- may something be called so -/
def nameP (s : List UInt8) : Bool := decide (1 ≤ s.length) && decide (s.length ≤ 8) && s.all isLow

theorem trim_lows {s : List UInt8} : (Lib.trimS s lows == ([] : List UInt8)) = s.all isLow := by
  have h : s.all (fun b => lows.contains b) = s.all isLow := by congr 1; funext b; exact lows_has b
  by_cases hc : s.all isLow = true
  · rw [hc, beq_iff_eq, trimS_nil, h, hc]
  · have : ¬ Lib.trimS s lows = [] := fun e => hc (by rw [← h]; exact trimS_nil.1 e)
    have hf : s.all isLow = false := by simpa using hc
    rw [hf]; simpa using this

theorem trim_digits {s : List UInt8} : (Lib.trimS s digits == ([] : List UInt8)) = s.all isDig := by
  have h : s.all (fun b => digits.contains b) = s.all isDig := by congr 1; funext b; exact digits_has b
  by_cases hc : s.all isDig = true
  · rw [hc, beq_iff_eq, trimS_nil, h, hc]
  · have : ¬ Lib.trimS s digits = [] := fun e => hc (by rw [← h]; exact trimS_nil.1 e)
    have hf : s.all isDig = false := by simpa using hc
    rw [hf]; simpa using this

theorem isEmpty_lows {s : List UInt8} : (Lib.trimS s lows).isEmpty = s.all isLow := by
  rw [← trim_lows]; cases Lib.trimS s lows <;> rfl
theorem isEmpty_digits {s : List UInt8} : (Lib.trimS s digits).isEmpty = s.all isDig := by
  rw [← trim_digits]; cases Lib.trimS s digits <;> rfl

/-- a text's lines -/
def linesP (s : List UInt8) : Option (List (List UInt8)) :=
  if s = [] then some [] else if Lib.hasSuffix s [10] then some (splitC 10 (Lib.trimSuffix s [10])) else none

/-- may a word be so -/
def wordOk (w : List UInt8) : Bool := !w.isEmpty && w.all isSeen

/-- a line's words -/
def wordsP (s : List UInt8) : Option (List (List UInt8)) :=
  if s = [] then some [] else if (splitC 32 s).all wordOk then some (splitC 32 s) else none

def errOf (x : Option (List (List UInt8))) : Int := match x with | some _ => 0 | none => 2

/-- how a number is read: which, or why not -/
def numP (s : List UInt8) : Int × Int :=
  let t := Lib.trimPrefix s [45]
  if (t == [] || !t.all isDig || (decide (1 < t.length) && t[0]? == some 48) || s == [45, 48]) then (0, 2)
  else match Lib.parseIntB 64 s with
    | .ok v => (v, 0)
    | _ => (0, 14)

/-! ### digits -/

theorem dec_small {u : Nat} (h : u < 10) : Lib.decDigits u = [UInt8.ofNat (48 + u)] := by rw [Lib.decDigits]; simp [h]
theorem dec_step {u : Nat} (h : ¬ u < 10) : Lib.decDigits u = Lib.decDigits (u / 10) ++ [UInt8.ofNat (48 + u % 10)] := by rw [Lib.decDigits]; simp [h]

theorem digs_len : ∀ (f u : Nat), (digs f u).length ≤ f
  | 0, _ => by simp [digs]
  | f + 1, u => by
    unfold digs
    split
    · simp
    · have := digs_len f (u / 10)
      simp; omega

theorem dec_len {u : Nat} (h : u < 10 ^ 20) : (Lib.decDigits u).length ≤ 20 := by
  rcases digs_eq 20 u h with e | e
  · rw [← e]; exact digs_len 20 u
  · omega

theorem itoa_len (n : Int) : (itoa n).length ≤ 21 := by
  unfold itoa
  split
  · have := digs_len 20 n.natAbs; simp; omega
  · have := digs_len 20 n.toNat; omega

theorem itoa_pos {n : Nat} (h : n ≤ 9223372036854775807) : itoa (n : Int) = Lib.decDigits n := by
  rw [itoa_eq (by omega) (by omega)]
  unfold Lib.itoa
  rw [if_neg (by omega)]; simp
theorem itoa_neg {n : Nat} (h0 : 1 ≤ n) (h : n ≤ 9223372036854775808) : itoa (-(n : Int)) = 45 :: Lib.decDigits n := by
  rw [itoa_eq (by omega) (by omega)]
  unfold Lib.itoa
  rw [if_pos (by omega)]; simp

/-- what is still to be put ahead -/
def ahead (u : Nat) : List UInt8 := if u < 10 then [] else Lib.decDigits (u / 10)

theorem dec_ahead (u : Nat) : Lib.decDigits u = ahead u ++ [UInt8.ofNat (48 + u % 10)] := by
  unfold ahead
  by_cases h : u < 10
  · rw [dec_small h, if_pos h, Nat.mod_eq_of_lt h]; rfl
  · rw [dec_step h, if_neg h]

end Go.Cl

namespace Go.Cl
open Go
set_option linter.unusedSimpArgs false
set_option linter.unusedVariables false

theorem splitC_snoc (c : UInt8) : ∀ (t : List UInt8), splitC c (t ++ [c]) = splitC c t ++ [[]]
  | [] => by simp [splitC]
  | b :: t => by
    have ih := splitC_snoc c t
    by_cases h : b == c
    · simp [splitC, h, ih]
    · have hne := splitC_ne c t
      simp only [List.cons_append, splitC, h, ih]
      cases hs : splitC c t with
      | nil => exact absurd hs hne
      | cons w ws => simp

theorem suffix_iff {s : List UInt8} {c : UInt8} : Lib.hasSuffix s [c] = true ↔ ∃ t, s = t ++ [c] := by
  unfold Lib.hasSuffix
  rw [List.isSuffixOf_iff_suffix]
  constructor
  · rintro ⟨t, h⟩; exact ⟨t, h.symm⟩
  · rintro ⟨t, h⟩; exact ⟨t, h.symm⟩

theorem trimSuffix_snoc {t : List UInt8} {c : UInt8} : Lib.trimSuffix (t ++ [c]) [c] = t := by
  unfold Lib.trimSuffix
  rw [if_pos (suffix_iff.2 ⟨t, rfl⟩)]
  simp

theorem suffix_last {s : List UInt8} {c : UInt8} (h : s ≠ []) : Lib.hasSuffix s [c] = true ↔ s[s.length - 1]? = some c := by
  rw [suffix_iff]
  constructor
  · rintro ⟨t, rfl⟩; simp
  · intro h2
    refine ⟨s.dropLast, ?_⟩
    have := List.dropLast_concat_getLast h
    rw [List.getLast_eq_getElem] at this
    have hl : s.length - 1 < s.length := by have := List.length_pos_iff.2 h; omega
    rw [List.getElem?_eq_getElem hl] at h2
    rw [← this]
    simp at h2
    simp [h2]

/-- so far the pieces are told; from here on there is no cut up to i -/
structure CutAt (c : UInt8) (s : List UInt8) (frm i : Nat) (out : List (List UInt8)) : Prop where
  fi : frm ≤ i
  il : i ≤ s.length
  cut : splitC c s = out ++ splitC c (s.drop frm)
  no : ∀ k, frm ≤ k → k < i → s[k]? ≠ some c

theorem CutAt.zero (c : UInt8) (s : List UInt8) : CutAt c s 0 0 [] := ⟨by omega, by omega, by simp, fun k _ h => by omega⟩

theorem CutAt.next {c : UInt8} {s : List UInt8} {f i : Nat} {out : List (List UInt8)} (k : CutAt c s f i out) (hi : i < s.length) (h : s[i]? ≠ some c) : CutAt c s f (i + 1) out :=
  ⟨by have := k.fi; omega, by omega, k.cut, fun j h1 h2 => by
    by_cases e : j = i
    · subst e; exact h
    · exact k.no j h1 (by omega)⟩

theorem CutAt.hit {c : UInt8} {s : List UInt8} {f i : Nat} {out : List (List UInt8)} (k : CutAt c s f i out) (h : s[i]? = some c) : CutAt c s (i + 1) (i + 1) (out ++ [(s.take i).drop f]) := by
  have hi : i < s.length := by
    rcases Nat.lt_or_ge i s.length with g | g
    · exact g
    · simp [List.getElem?_eq_none g] at h
  have hf := k.fi
  refine ⟨Nat.le_refl _, by omega, ?_, fun j h1 h2 => by omega⟩
  have e := splitC_at (c := c) (l := s.drop f) (i := i - f) (by rw [List.getElem?_drop, show f + (i - f) = i by omega]; exact h) (fun j hj => by
    rw [List.getElem?_drop]; exact k.no _ (by omega) (by omega))
  rw [k.cut, e, List.drop_drop, show f + (i - f + 1) = i + 1 by omega]
  simp [List.drop_take]

theorem CutAt.done {c : UInt8} {s : List UInt8} {f : Nat} {out : List (List UInt8)} (k : CutAt c s f s.length out) : splitC c s = out ++ [s.drop f] := by
  rw [k.cut, splitC_none]
  intro j
  rw [List.getElem?_drop]
  by_cases h : f + j < s.length
  · exact k.no _ (by omega) h
  · rw [List.getElem?_eq_none (by omega)]; simp

theorem splitC_mem {c b : UInt8} : ∀ {s : List UInt8}, b ∈ s → b ≠ c → ∃ w ∈ splitC c s, b ∈ w
  | [], h, _ => by simp at h
  | x :: s, h, hne => by
    by_cases hx : x == c
    · have hxc : x = c := by simpa using hx
      have hb : b ∈ s := by
        rcases List.mem_cons.1 h with e | e
        · exact absurd (e.trans hxc) hne
        · exact e
      obtain ⟨w, h1, h2⟩ := splitC_mem hb hne
      exact ⟨w, by simp [splitC, hx, h1], h2⟩
    · simp only [splitC, hx]
      cases hs : splitC c s with
      | nil => exact absurd hs (splitC_ne c s)
      | cons w ws =>
        simp
        rcases List.mem_cons.1 h with e | e
        · left; left; exact e
        · obtain ⟨w', h1, h2⟩ := splitC_mem e hne
          rw [hs] at h1
          rcases List.mem_cons.1 h1 with q | q
          · left; right; rw [← q]; exact h2
          · right; exact ⟨w', q, h2⟩

theorem words_none {s : List UInt8} {w : List UInt8} (h0 : s ≠ []) (hw : w ∈ splitC 32 s) (hb : wordOk w = false) : wordsP s = none := by
  unfold wordsP
  rw [if_neg h0, if_neg]
  intro hh
  rw [List.all_eq_true.1 hh w hw] at hb
  cases hb

theorem words_unseen {s : List UInt8} {b : UInt8} (hb : b ∈ s) (h32 : b ≠ 32) (hn : isSeen b = false) : wordsP s = none := by
  obtain ⟨w, h1, h2⟩ := splitC_mem hb h32
  refine words_none (List.ne_nil_of_mem hb) h1 ?_
  have : w.all isSeen = false := by
    rw [Bool.eq_false_iff]; intro hh
    rw [List.all_eq_true.1 hh b h2] at hn; cases hn
  simp [wordOk, this]

theorem CutAt.first {c : UInt8} {s : List UInt8} {f i : Nat} {out : List (List UInt8)} (k : CutAt c s f i out) (h : s[i]? = some c) : (s.take i).drop f ∈ splitC c s := by
  rw [(k.hit h).cut]; simp
theorem CutAt.last {c : UInt8} {s : List UInt8} {f : Nat} {out : List (List UInt8)} (k : CutAt c s f s.length out) : splitC c s = out ++ [(s.take s.length).drop f] := by
  rw [List.take_length]; exact k.done

/-- all lines are told -/
theorem CutAt.lines {s : List UInt8} {f : Nat} {out : List (List UInt8)} (k : CutAt 10 s f s.length out) (h : s = [] ∨ Lib.hasSuffix s [10] = true) : linesP s = some out := by
  unfold linesP
  by_cases hs : s = []
  · subst hs
    have := k.done
    rw [if_pos rfl]
    have hf : f = 0 := by have := k.fi; simpa using this
    subst hf
    have e := k.cut
    simp [splitC] at e
    simp [e]
  · have h2 := h.resolve_left hs
    rw [if_neg hs, if_pos h2]
    obtain ⟨t, rfl⟩ := suffix_iff.1 h2
    have hd := k.done
    rw [splitC_snoc] at hd
    have hfl : f = (t ++ [(10 : UInt8)]).length := by
      rcases Nat.lt_or_ge f (t ++ [(10 : UInt8)]).length with g | g
      · exfalso
        refine k.no t.length ?_ (by simp) (by simp)
        simp at g; omega
      · have := k.fi; omega
    rw [hfl, List.drop_length] at hd
    rw [trimSuffix_snoc, List.append_cancel_right hd]

end Go.Cl

namespace Go.Cl
open Go
set_option linter.unusedSimpArgs false
set_option linter.unusedVariables false

/-- what digits spell behind others -/
def dval (acc : Nat) (t : List UInt8) : Nat := t.foldl (fun a c => a * 10 + (c.toNat - 48)) acc

theorem dval_nil {acc : Nat} : dval acc [] = acc := rfl
theorem dval_cons {acc : Nat} {c : UInt8} {r : List UInt8} : dval acc (c :: r) = dval (acc * 10 + (c.toNat - 48)) r := by simp only [dval, List.foldl_cons]

theorem dval_ge : ∀ (t : List UInt8) (acc : Nat), acc ≤ dval acc t
  | [], acc => by rw [dval_nil]; exact Nat.le_refl acc
  | c :: r, acc => by
    have := dval_ge r (acc * 10 + (c.toNat - 48))
    rw [dval_cons]
    omega

theorem parseM_nil {M acc : Nat} : Lib.parseUintM M acc [] = .ok acc := by simp [Lib.parseUintM]
theorem parseM_cons {M acc : Nat} {c : UInt8} {r : List UInt8} (hc : 48 ≤ c.toNat ∧ c.toNat ≤ 57) : Lib.parseUintM M acc (c :: r) =
    if 1844674407370955162 ≤ acc then .range else if M < acc * 10 + (c.toNat - 48) then .range else Lib.parseUintM M (acc * 10 + (c.toNat - 48)) r := by
  simp only [Lib.parseUintM, if_pos hc]

theorem parseM (M : Nat) (hM : M = 18446744073709551615) : ∀ (t : List UInt8) (acc v : Nat), t.all isDig = true → acc ≤ M → dval acc t = v →
    Lib.parseUintM M acc t = if v ≤ M then .ok v else .range
  | [], acc, v, _, ha, hv => by
    rw [dval_nil] at hv
    subst hv
    rw [parseM_nil, if_pos ha]
  | c :: r, acc, v, hd, ha, hv => by
    simp only [List.all_cons, Bool.and_eq_true] at hd
    have hc := hd.1
    simp only [isDig, Bool.and_eq_true, decide_eq_true_eq] at hc
    have hge := dval_ge r (acc * 10 + (c.toNat - 48))
    rw [dval_cons] at hv
    rw [parseM_cons hc]
    rw [hv] at hge
    by_cases h1 : 1844674407370955162 ≤ acc
    · rw [if_pos h1, if_neg (by omega)]
    · rw [if_neg h1]
      by_cases h2 : M < acc * 10 + (c.toNat - 48)
      · rw [if_pos h2, if_neg (by omega)]
      · rw [if_neg h2]
        exact parseM M hM r _ v hd.2 (by omega) hv

/-- with its sign -/
def signed (minus : Bool) (t : List UInt8) : List UInt8 := if minus then 45 :: t else t

def numV (minus : Bool) (v : Nat) : Int × Int :=
  if minus then (if v ≤ 9223372036854775808 then (-(v : Int), 0) else (0, 14)) else if v < 9223372036854775808 then ((v : Int), 0) else (0, 14)

theorem trim_signed {minus : Bool} {t : List UInt8} (h : minus = false → t[0]? ≠ some 45) : Lib.trimPrefix (signed minus t) [45] = t := by
  cases minus with
  | true => simp [signed, Lib.trimPrefix, Lib.hasPrefix, List.isPrefixOf]
  | false =>
    have := h rfl
    unfold signed Lib.trimPrefix Lib.hasPrefix
    cases t with
    | nil => rfl
    | cons b t =>
      simp at this
      have hb : ((45 : UInt8) == b) = false := by
        rw [beq_eq_false_iff_ne]; exact fun e => this e.symm
      simp [List.isPrefixOf, hb]

theorem numP_form {minus : Bool} {t : List UInt8} (h : minus = false → t[0]? ≠ some 45) (k : t = [] ∨ t.all isDig = false ∨ (t[0]? = some 48 ∧ (1 < t.length ∨ minus = true))) : numP (signed minus t) = (0, 2) := by
  unfold numP
  simp only [trim_signed h]
  rw [if_pos]
  rcases k with k | k | ⟨k1, k2 | k2⟩
  · simp [k]
  · simp [k]
  · simp [k1, k2]
  · subst k2
    by_cases hl : 1 < t.length
    · simp [k1, hl]
    · cases t with
      | nil => simp at k1
      | cons b t =>
        simp at k1 hl
        subst k1
        have : t = [] := by
          cases t with
          | nil => rfl
          | cons _ _ => simp at hl
        subst this
        rfl

theorem numP_good {minus : Bool} {t : List UInt8} (h0 : t ≠ []) (hd : t.all isDig = true) (hz : ¬ (t[0]? = some 48 ∧ (1 < t.length ∨ minus = true))) : numP (signed minus t) = numV minus (dval 0 t) := by
  obtain ⟨b, r, rfl⟩ : ∃ b r, t = b :: r := by
    cases t with
    | nil => exact absurd rfl h0
    | cons b r => exact ⟨b, r, rfl⟩
  have hb : isDig b = true := by simp only [List.all_cons, Bool.and_eq_true] at hd; exact hd.1
  have hb' := hb
  simp only [isDig, Bool.and_eq_true, decide_eq_true_eq] at hb'
  have hne45 : b ≠ 45 := by rintro rfl; simp at hb'
  unfold numP
  simp only [trim_signed (minus := minus) (t := b :: r) (by simp [hne45])]
  rw [if_neg]
  · obtain ⟨v, hv⟩ : ∃ v, dval 0 (b :: r) = v := ⟨_, rfl⟩
    obtain ⟨M, hM⟩ : ∃ M, M = 2 ^ 64 - 1 := ⟨_, rfl⟩
    have hM' : M = 18446744073709551615 := hM
    have hp : Lib.parseUintB 64 (b :: r) = if v ≤ M then .ok v else .range := by
      unfold Lib.parseUintB
      rw [if_neg (by simp), ← hM]
      exact parseM M hM' _ _ _ hd (by omega) hv
    rw [hv]
    obtain ⟨C, hC⟩ : ∃ C, C = 2 ^ (64 - 1) := ⟨_, rfl⟩
    have hC' : C = 9223372036854775808 := hC
    cases minus with
    | true =>
      rw [show signed true (b :: r) = 45 :: b :: r by simp [signed], Lib.parseIntB_minus, hp, ← hC]
      by_cases h1 : v ≤ M
      · rw [if_pos h1]
        simp only [Lib.signedC, numV]
        by_cases h2 : v ≤ 9223372036854775808
        · have : ¬ C < v := by omega
          simp [h2, this]
        · have : C < v := by omega
          simp [h2, this]
      · rw [if_neg h1]
        have : ¬ v ≤ 9223372036854775808 := by omega
        simp [Lib.signedC, numV, this]
    | false =>
      rw [show signed false (b :: r) = b :: r by simp [signed], Lib.parseIntB_plain _ _ _ (by omega) (by omega), hp, ← hC]
      by_cases h1 : v ≤ M
      · rw [if_pos h1]
        simp only [Lib.signlessC, numV]
        by_cases h2 : v < 9223372036854775808
        · have : ¬ C ≤ v := by omega
          simp [h2, this]
        · have : C ≤ v := by omega
          simp [h2, this]
      · rw [if_neg h1]
        have : ¬ v < 9223372036854775808 := by omega
        simp [Lib.signlessC, numV, this]
  · intro hh
    simp only [Bool.or_eq_true, Bool.and_eq_true, Bool.not_eq_true', beq_iff_eq, decide_eq_true_eq] at hh
    rcases hh with ((hh | hh) | ⟨h1, h2⟩) | hh
    · cases hh
    · rw [hd] at hh; cases hh
    · exact hz ⟨h2, .inl h1⟩
    · cases minus with
      | false =>
        simp only [signed] at hh
        simp at hh
        exact hne45 hh.1
      | true =>
        simp only [signed] at hh
        simp at hh
        exact hz ⟨by simp [hh.1], .inr rfl⟩

end Go.Cl

namespace Go.Cl
open Go
set_option linter.unusedSimpArgs false
set_option linter.unusedVariables false

theorem dval_snoc {a : Nat} {t : List UInt8} {c : UInt8} : dval a (t ++ [c]) = dval a t * 10 + (c.toNat - 48) := by
  simp only [dval, List.foldl_append, List.foldl_cons, List.foldl_nil]

theorem dval_mono {t : List UInt8} {i : Nat} : dval 0 (t.take i) ≤ dval 0 t := by
  have : t = t.take i ++ t.drop i := (List.take_append_drop i t).symm
  have e : dval 0 t = dval (dval 0 (t.take i)) (t.drop i) := by
    conv => lhs; rw [this]
    simp only [dval, List.foldl_append]
  rw [e]; exact dval_ge _ _

theorem digit_toNat {d : Nat} (h : d < 10) : (UInt8.ofNat (48 + d)).toNat = 48 + d := by
  simp; omega

theorem dec_dig (u : Nat) : (Lib.decDigits u).all isDig = true := by
  induction u using Nat.strongRecOn with
  | _ u ih =>
    by_cases h : u < 10
    · rw [dec_small h]
      simp only [List.all_cons, List.all_nil, isDig, digit_toNat h]
      simp; omega
    · rw [dec_step h, List.all_append, ih (u / 10) (by omega)]
      simp only [List.all_cons, List.all_nil, isDig, digit_toNat (show u % 10 < 10 by omega)]
      simp; omega

theorem dec_ne (u : Nat) : Lib.decDigits u ≠ [] := by
  by_cases h : u < 10
  · rw [dec_small h]; simp
  · rw [dec_step h]; simp

theorem dval_dec (u : Nat) : dval 0 (Lib.decDigits u) = u := by
  induction u using Nat.strongRecOn with
  | _ u ih =>
    by_cases h : u < 10
    · rw [dec_small h, dval_cons, dval_nil, digit_toNat h]; omega
    · rw [dec_step h, dval_snoc, ih (u / 10) (by omega), digit_toNat (show u % 10 < 10 by omega)]; omega

theorem dec_head {u : Nat} (h : 1 ≤ u) : (Lib.decDigits u)[0]? ≠ some 48 := by
  induction u using Nat.strongRecOn with
  | _ u ih =>
    by_cases h10 : u < 10
    · rw [dec_small h10]
      simp only [List.getElem?_cons_zero]
      intro e
      have := congrArg UInt8.toNat (Option.some.inj e)
      rw [digit_toNat h10] at this
      simp at this; omega
    · rw [dec_step h10, List.getElem?_append_left (List.length_pos_iff.2 (dec_ne _))]
      exact ih (u / 10) (by omega) (by omega)

theorem dval_pos : ∀ {t : List UInt8}, t.all isDig = true → t ≠ [] → t[0]? ≠ some 48 → 1 ≤ dval 0 t
  | [], _, h, _ => absurd rfl h
  | c :: r, hd, _, hz => by
    simp only [List.all_cons, Bool.and_eq_true, isDig, decide_eq_true_eq] at hd
    have hge := dval_ge r (0 * 10 + (c.toNat - 48))
    rw [dval_cons]
    have : c.toNat ≠ 48 := fun e => hz (by simp; apply UInt8.toNat.inj; simpa using e)
    omega

/-- digits without a 0 ahead are their number's -/
theorem dec_dval : ∀ (n : Nat) (t : List UInt8), t.length ≤ n → t.all isDig = true → t ≠ [] → (t[0]? = some 48 → t.length = 1) → Lib.decDigits (dval 0 t) = t
  | 0, t, hl, _, h, _ => absurd (List.length_eq_zero_iff.1 (by omega)) h
  | n + 1, t, hl, hd, h, hz => by
    obtain ⟨r, c, rfl⟩ : ∃ r c, t = r ++ [c] := ⟨t.dropLast, t.getLast h, (List.dropLast_concat_getLast h).symm⟩
    rw [List.all_append, Bool.and_eq_true] at hd
    have hc := hd.2
    simp only [List.all_cons, List.all_nil, Bool.and_true, isDig, Bool.and_eq_true, decide_eq_true_eq] at hc
    have hcc : UInt8.ofNat (48 + (c.toNat - 48)) = c := by
      apply UInt8.toNat.inj
      rw [digit_toNat (by omega)]; omega
    rw [dval_snoc]
    by_cases hr : r = []
    · subst hr
      rw [dval_nil, dec_small (by omega)]
      simp only [Nat.zero_mul, Nat.zero_add, List.nil_append]
      rw [hcc]
    · have hrl := List.length_pos_iff.2 hr
      have hz' : r[0]? ≠ some 48 := fun e => by
        have := hz (by rw [List.getElem?_append_left hrl]; exact e)
        rw [List.length_append, List.length_singleton] at this; omega
      have hp := dval_pos hd.1 hr hz'
      rw [dec_step (by omega), show (dval 0 r * 10 + (c.toNat - 48)) / 10 = dval 0 r by omega, show (dval 0 r * 10 + (c.toNat - 48)) % 10 = c.toNat - 48 by omega, hcc,
        dec_dval n r (by simp at hl; omega) hd.1 hr fun e => absurd e hz']

/-- a text is read as its number -/
theorem numP_itoa {n : Int} (h0 : -9223372036854775808 ≤ n) (h1 : n ≤ 9223372036854775807) : numP (itoa n) = (n, 0) := by
  by_cases hn : n < 0
  · obtain ⟨u, rfl⟩ : ∃ u : Nat, n = -(u : Int) := ⟨n.natAbs, by omega⟩
    have hh := dec_head (u := u) (by omega)
    rw [itoa_neg (by omega) (by omega), show (45 :: Lib.decDigits u) = signed true (Lib.decDigits u) by simp [signed], numP_good (dec_ne u) (dec_dig u) (fun x => hh x.1), dval_dec]
    have : u ≤ 9223372036854775808 := by omega
    simp [numV, this]
  · obtain ⟨u, rfl⟩ : ∃ u : Nat, n = u := ⟨n.toNat, by omega⟩
    rw [itoa_pos (by omega), show Lib.decDigits u = signed false (Lib.decDigits u) by simp [signed], numP_good (dec_ne u) (dec_dig u) ?_, dval_dec]
    · have : u < 9223372036854775808 := by omega
      simp [numV, this]
    · rintro ⟨x, y | y⟩
      · by_cases h0 : u = 0
        · subst h0
          rw [dec_small (by omega)] at y; simp at y
        · exact dec_head (u := u) (by omega) x
      · cases y

/-- what is read as a number is its text -/
theorem itoa_numP {s : List UInt8} (h : (numP s).2 = 0) : itoa (numP s).1 = s := by
  have key : ∀ (minus : Bool) (t : List UInt8), s = signed minus t → (minus = false → t[0]? ≠ some 45) → itoa (numP s).1 = s := by
    intro minus t hst hm
    by_cases k : t = [] ∨ t.all isDig = false ∨ (t[0]? = some 48 ∧ (1 < t.length ∨ minus = true))
    · rw [hst, numP_form hm k] at h; cases h
    · have k1 : t ≠ [] := fun e => k (.inl e)
      have k2 : t.all isDig = true := by
        cases e : t.all isDig with
        | true => rfl
        | false => exact absurd (.inr (.inl e)) k
      have k3 : ¬ (t[0]? = some 48 ∧ (1 < t.length ∨ minus = true)) := fun e => k (.inr (.inr e))
      have hg := numP_good (minus := minus) k1 k2 k3
      rw [← hst] at hg
      have hpos := List.length_pos_iff.2 k1
      have hd := dec_dval t.length t (Nat.le_refl _) k2 k1 (fun e => by
        by_cases hl : 1 < t.length
        · exact absurd ⟨e, .inl hl⟩ k3
        · omega)
      cases minus with
      | true =>
        have h48 : t[0]? ≠ some 48 := fun e => k3 ⟨e, .inr rfl⟩
        have hp := dval_pos k2 k1 h48
        unfold numV at hg
        simp only [if_true] at hg
        split at hg
        · rename_i hle
          rw [hg, itoa_neg hp hle, hd, hst]; simp [signed]
        · rw [hg] at h; cases h
      | false =>
        unfold numV at hg
        simp only [Bool.false_eq_true, if_false] at hg
        split at hg
        · rename_i hle
          rw [hg, itoa_pos (by omega), hd, hst]; simp [signed]
        · rw [hg] at h; cases h
  cases s with
  | nil => exact key false [] (by simp [signed]) (by simp)
  | cons b t =>
    by_cases hb : b = 45
    · subst hb; exact key true t (by simp [signed]) (by simp)
    · exact key false (b :: t) (by simp [signed]) (by simpa using hb)

theorem numP_in (s : List UInt8) : -9223372036854775808 ≤ (numP s).1 ∧ (numP s).1 ≤ 9223372036854775807 := by
  cases hp : Lib.parseIntB 64 s with
  | ok v =>
    have hb := Lib.parseIntB_bounds hp
    simp at hb
    simp only [numP, hp]
    split
    · decide
    · exact ⟨hb.1, by show v ≤ _; omega⟩
  | range => simp only [numP, hp]; split <;> decide
  | _ => simp only [numP, hp]; split <;> decide

theorem dec_len19 {u : Nat} (h : u < 10 ^ 19) : (Lib.decDigits u).length ≤ 19 := by
  rcases digs_eq 19 u h with e | e
  · rw [← e]; exact digs_len 19 u
  · omega

theorem itoa_len20 {n : Int} (h0 : -9223372036854775808 ≤ n) (h1 : n ≤ 9223372036854775807) : 1 ≤ (itoa n).length ∧ (itoa n).length ≤ 20 := by
  by_cases hn : n < 0
  · obtain ⟨u, rfl⟩ : ∃ u : Nat, n = -(u : Int) := ⟨n.natAbs, by omega⟩
    rw [itoa_neg (by omega) (by omega)]
    have := dec_len19 (u := u) (by omega)
    simp; omega
  · obtain ⟨u, rfl⟩ : ∃ u : Nat, n = u := ⟨n.toNat, by omega⟩
    rw [itoa_pos (by omega)]
    have := dec_len19 (u := u) (by omega)
    have := List.length_pos_iff.2 (dec_ne u)
    omega

end Go.Cl

namespace Go.Cl
open Go
set_option linter.unusedSimpArgs false
set_option linter.unusedVariables false

/-- words with a byte between them -/
def joinC (c : UInt8) : List (List UInt8) → List UInt8
  | [] => []
  | [w] => w
  | w :: x :: ws => w ++ c :: joinC c (x :: ws)

/-- lines, each with its end -/
def linesOf (l : List (List UInt8)) : List UInt8 := l.flatMap fun w => w ++ [10]

theorem joinC_snoc (c : UInt8) (w : List UInt8) : ∀ (l : List (List UInt8)), l ≠ [] → joinC c (l ++ [w]) = joinC c l ++ c :: w
  | [], h => absurd rfl h
  | [x], _ => by simp [joinC]
  | x :: y :: l, _ => by
    have ih := joinC_snoc c w (y :: l) (by simp)
    simp only [List.cons_append] at ih
    simp [joinC, ih]

theorem joinC_cons {c : UInt8} {w : List UInt8} {ws : List (List UInt8)} (h : ws ≠ []) : joinC c (w :: ws) = w ++ c :: joinC c ws := by
  cases ws with
  | nil => exact absurd rfl h
  | cons x ws => rfl

theorem join_split (c : UInt8) : ∀ (s : List UInt8), joinC c (splitC c s) = s
  | [] => rfl
  | b :: s => by
    have ih := join_split c s
    have hne := splitC_ne c s
    simp only [splitC]
    by_cases h : b == c
    · have hb : b = c := by simpa using h
      rw [if_pos h, joinC_cons hne, ih, hb]; rfl
    · rw [if_neg h]
      cases hs : splitC c s with
      | nil => exact absurd hs hne
      | cons w ws =>
        rw [hs] at ih
        cases ws with
        | nil => simp only [joinC] at ih ⊢; rw [ih]
        | cons x ws => simp only [joinC] at ih ⊢; rw [← ih]; rfl

theorem splitC_word {c : UInt8} {w r : List UInt8} (h : ∀ b ∈ w, b ≠ c) : splitC c (w ++ c :: r) = w :: splitC c r := by
  have e := splitC_at (c := c) (l := w ++ c :: r) (i := w.length) (by simp) (fun k hk => by
    rw [List.getElem?_append_left hk, List.getElem?_eq_getElem hk]
    intro e
    exact h _ (List.getElem_mem hk) (Option.some.inj e))
  rw [e]
  simp

theorem splitC_only {c : UInt8} {w : List UInt8} (h : ∀ b ∈ w, b ≠ c) : splitC c w = [w] := splitC_none fun k e => by
  obtain ⟨hk, e⟩ := List.getElem?_eq_some_iff.1 e
  exact h _ (List.getElem_mem hk) e

theorem split_join {c : UInt8} : ∀ {l : List (List UInt8)}, l ≠ [] → (∀ w ∈ l, ∀ b ∈ w, b ≠ c) → splitC c (joinC c l) = l
  | [], h, _ => absurd rfl h
  | [w], _, h => by simp only [joinC]; exact splitC_only (h w (by simp))
  | w :: x :: l, _, h => by
    rw [joinC_cons (by simp), splitC_word (h w (by simp)), split_join (l := x :: l) (by simp) fun y hy => h y (by simp at hy ⊢; right; exact hy)]

theorem linesOf_snoc (l : List (List UInt8)) (w : List UInt8) : linesOf (l ++ [w]) = linesOf l ++ w ++ [10] := by simp [linesOf]

theorem linesOf_join : ∀ {l : List (List UInt8)}, l ≠ [] → linesOf l = joinC 10 l ++ [10]
  | [], h => absurd rfl h
  | [w], _ => by simp [linesOf, joinC]
  | w :: x :: l, _ => by
    have ih := linesOf_join (l := x :: l) (by simp)
    rw [joinC_cons (by simp), List.append_assoc, List.cons_append, ← ih]
    simp [linesOf]

theorem lines_of {l : List (List UInt8)} (h : ∀ w ∈ l, ∀ b ∈ w, b ≠ 10) : linesP (linesOf l) = some l := by
  by_cases hl : l = []
  · subst hl; rfl
  · unfold linesP
    have e := linesOf_join hl
    rw [e, if_neg (by simp), if_pos (suffix_iff.2 ⟨_, rfl⟩), trimSuffix_snoc, split_join hl h]

theorem of_lines {s : List UInt8} {l : List (List UInt8)} (h : linesP s = some l) : linesOf l = s := by
  unfold linesP at h
  split at h
  · rename_i h0
    cases h; rw [h0]; rfl
  · split at h
    · rename_i h1
      cases h
      obtain ⟨t, rfl⟩ := suffix_iff.1 h1
      rw [trimSuffix_snoc, linesOf_join (splitC_ne _ _), join_split]
    · cases h

theorem words_of {l : List (List UInt8)} (h : l.all wordOk = true) : wordsP (joinC 32 l) = some l := by
  have h32 : ∀ w ∈ l, ∀ b ∈ w, b ≠ 32 := fun w hw b hb e => by
    have := List.all_eq_true.1 h w hw
    simp only [wordOk, Bool.and_eq_true] at this
    have := List.all_eq_true.1 this.2 b hb
    rw [e] at this
    simp [isSeen] at this
  cases l with
  | nil => rfl
  | cons w ws =>
    have hw := List.all_eq_true.1 h w (by simp)
    have hne : joinC 32 (w :: ws) ≠ [] := by
      simp only [wordOk, Bool.and_eq_true] at hw
      cases w with
      | nil => simp at hw
      | cons b w => cases ws <;> simp [joinC]
    unfold wordsP
    rw [if_neg hne, split_join (by simp) h32, if_pos h]

theorem of_words {s : List UInt8} {l : List (List UInt8)} (h : wordsP s = some l) : joinC 32 l = s := by
  unfold wordsP at h
  split at h
  · rename_i h0
    cases h; rw [h0]; rfl
  · split at h
    · cases h; exact join_split 32 s
    · cases h

theorem joinC_take_le (c : UInt8) : ∀ (l : List (List UInt8)) (j : Nat), (joinC c (l.take j)).length ≤ (joinC c l).length
  | [], j => by simp [joinC]
  | w :: ws, 0 => by simp [joinC]
  | [w], j + 1 => by simp [joinC]
  | w :: x :: ws, j + 1 => by
    have ih := joinC_take_le c (x :: ws) j
    rw [List.take_succ_cons]
    cases hj : (x :: ws).take j with
    | nil => simp [joinC]
    | cons y ys =>
      rw [hj] at ih
      simp only [joinC, List.length_append, List.length_cons] at ih ⊢
      omega

theorem joinC_next (c : UInt8) {l : List (List UInt8)} {j : Nat} (h : j < l.length) : joinC c (l.take (j + 1)) = (if j = 0 then joinC c (l.take j) else joinC c (l.take j) ++ [c]) ++ l[j] := by
  have htk : l.take (j + 1) = l.take j ++ [l[j]] := by rw [List.take_add_one, List.getElem?_eq_getElem h]; rfl
  rw [htk]
  by_cases h0 : j = 0
  · subst h0; simp [joinC]
  · rw [if_neg h0, joinC_snoc c _ _ (by simp; exact ⟨h0, fun e => by rw [e] at h; simp at h⟩)]; simp

theorem linesOf_next {l : List (List UInt8)} {i : Nat} (h : i < l.length) : linesOf (l.take (i + 1)) = linesOf (l.take i) ++ l[i] ++ [10] := by
  have htk : l.take (i + 1) = l.take i ++ [l[i]] := by rw [List.take_add_one, List.getElem?_eq_getElem h]; rfl
  rw [htk, linesOf_snoc]

theorem linesOf_take_le (l : List (List UInt8)) (i : Nat) : (linesOf (l.take i)).length ≤ (linesOf l).length := by
  have : linesOf l = linesOf (l.take i) ++ linesOf (l.drop i) := by
    unfold linesOf
    rw [← List.flatMap_append, List.take_append_drop]
  rw [this]; simp

end Go.Cl

namespace Go.Cl
open Go
set_option linter.unusedSimpArgs false
set_option linter.unusedVariables false

/-- no number of a task -/
def badN (x : Int) : Bool := decide (x < -1) || decide (12 < x)

/-- which line is wrong, and why -/
def checkL : Nat → List (List Int) → Int × Int
  | _, [] => (0, 0)
  | i, r :: rs => if 64 < r.length then ((i : Int), 18) else if r.any badN = true then ((i : Int), 1) else checkL (i + 1) rs
def checkS (l : List (List Int)) : Int × Int := if 4096 < l.length then (0, 18) else checkL 0 l

theorem checkL_ok : ∀ (l : List (List Int)) (i : Nat), (checkL i l).2 = 0 → checkL i l = (0, 0) ∧ ∀ r ∈ l, r.length ≤ 64 ∧ ∀ x ∈ r, -1 ≤ x ∧ x ≤ 12
  | [], i, h => ⟨rfl, by simp⟩
  | r :: rs, i, h => by
    rw [checkL] at h ⊢
    by_cases h1 : 64 < r.length
    · rw [if_pos h1] at h; simp at h
    · rw [if_neg h1] at h ⊢
      by_cases h2 : r.any badN = true
      · rw [if_pos h2] at h; simp at h
      · rw [if_neg h2] at h ⊢
        obtain ⟨e, k⟩ := checkL_ok rs (i + 1) h
        refine ⟨e, fun q hq => ?_⟩
        rcases List.mem_cons.1 hq with rfl | hq
        · refine ⟨by omega, fun x hx => ?_⟩
          have : badN x = false := by
            cases hb : badN x with
            | false => rfl
            | true => exact absurd (List.any_eq_true.2 ⟨x, hx, hb⟩) h2
          simp [badN] at this
          omega
        · exact k q hq

theorem checkS_ok {l : List (List Int)} (h : (checkS l).2 = 0) : checkS l = (0, 0) ∧ l.length ≤ 4096 ∧ ∀ r ∈ l, r.length ≤ 64 ∧ ∀ x ∈ r, -1 ≤ x ∧ x ≤ 12 := by
  unfold checkS at h ⊢
  by_cases h1 : 4096 < l.length
  · rw [if_pos h1] at h; simp at h
  · rw [if_neg h1] at h ⊢
    obtain ⟨a, b⟩ := checkL_ok l 0 h
    exact ⟨a, by omega, b⟩

/-- a word as a number of 32 bits, or why not -/
def smP (w : List UInt8) : Int × Int := if (numP w).2 = 0 ∧ ((numP w).1 < -2147483648 ∨ 2147483647 < (numP w).1) then ((numP w).1, 14) else numP w

theorem smP_ok {w : List UInt8} (h : (smP w).2 = 0) : itoa (smP w).1 = w ∧ smP w = numP w := by
  unfold smP at h ⊢
  by_cases k : (numP w).2 = 0 ∧ ((numP w).1 < -2147483648 ∨ 2147483647 < (numP w).1)
  · rw [if_pos k] at h; simp at h
  · rw [if_neg k] at h ⊢
    exact ⟨itoa_numP h, rfl⟩

theorem smP_itoa {n : Int} (h0 : -1 ≤ n) (h1 : n ≤ 12) : smP (itoa n) = (n, 0) := by
  unfold smP
  rw [numP_itoa (by omega) (by omega)]
  rw [if_neg (by simp; omega)]

/-- a line's words, one by one -/
def lineGo : List (List UInt8) → List Int → List Int × Int
  | [], out => (out, 0)
  | w :: ws, out => if (smP w).2 = 0 then lineGo ws (out ++ [(smP w).1]) else ([], (smP w).2)
def lineR (s : List UInt8) : List Int × Int := match wordsP s with
  | none => ([], 2)
  | some ws => lineGo ws []

/-- a text's lines, one by one -/
def scrGo : Nat → List (List UInt8) → List (List Int) → List (List Int) × Int × Int
  | _, [], out => if (checkS out).2 = 0 then (out, 0, 0) else ([], (checkS out).1, (checkS out).2)
  | i, l :: ls, out => if (lineR l).2 = 0 then scrGo (i + 1) ls (out ++ [(lineR l).1]) else ([], (i : Int), (lineR l).2)
def scrR (s : List UInt8) : List (List Int) × Int × Int := match linesP s with
  | none => ([], 0, 2)
  | some ls => scrGo 0 ls []

def lineW (l : List Int) : List UInt8 := joinC 32 (l.map itoa)
def scrT (l : List (List Int)) : List UInt8 := linesOf (l.map lineW)

theorem lineGo_ok : ∀ (ws : List (List UInt8)) (out : List Int), (lineGo ws out).2 = 0 → (lineGo ws out).1.map itoa = out.map itoa ++ ws
  | [], out, h => by simp [lineGo]
  | w :: ws, out, h => by
    rw [lineGo] at h ⊢
    by_cases k : (smP w).2 = 0
    · rw [if_pos k] at h ⊢
      rw [lineGo_ok ws _ h]
      simp [(smP_ok k).1]
    · rw [if_neg k] at h
      exact absurd h k

theorem lineR_ok {s : List UInt8} (h : (lineR s).2 = 0) : lineW (lineR s).1 = s := by
  unfold lineR at h ⊢
  unfold lineW
  cases hw : wordsP s with
  | none => rw [hw] at h; simp at h
  | some ws =>
    rw [hw] at h
    simp only [] at h ⊢
    rw [lineGo_ok ws [] h]
    simpa using of_words hw

theorem scrGo_ok : ∀ (ls : List (List UInt8)) (i : Nat) (out : List (List Int)), (scrGo i ls out).2.2 = 0 → (scrGo i ls out).1.map lineW = out.map lineW ++ ls
  | [], i, out, h => by
    rw [scrGo] at h ⊢
    by_cases k : (checkS out).2 = 0
    · rw [if_pos k]; simp
    · rw [if_neg k] at h; exact absurd h k
  | l :: ls, i, out, h => by
    rw [scrGo] at h ⊢
    by_cases k : (lineR l).2 = 0
    · rw [if_pos k] at h ⊢
      rw [scrGo_ok ls _ _ h]
      simp [lineR_ok k]
    · rw [if_neg k] at h; exact absurd h k

theorem scrR_ok {s : List UInt8} (h : (scrR s).2.2 = 0) : scrT (scrR s).1 = s := by
  unfold scrR at h ⊢
  unfold scrT
  cases hl : linesP s with
  | none => rw [hl] at h; simp at h
  | some ls =>
    rw [hl] at h
    simp only [] at h ⊢
    rw [scrGo_ok ls 0 [] h]
    simpa using of_lines hl

theorem scrGo_check : ∀ (ls : List (List UInt8)) (i : Nat) (out : List (List Int)), ((scrGo i ls out).2.2 = 0 → (checkS (scrGo i ls out).1).2 = 0) ∧ ((scrGo i ls out).2.2 ≠ 0 → (scrGo i ls out).1 = [])
  | [], i, out => by
    rw [scrGo]
    by_cases k : (checkS out).2 = 0
    · rw [if_pos k]; exact ⟨fun _ => k, fun h => absurd rfl h⟩
    · rw [if_neg k]; exact ⟨fun h => absurd h k, fun _ => rfl⟩
  | l :: ls, i, out => by
    rw [scrGo]
    by_cases k : (lineR l).2 = 0
    · rw [if_pos k]; exact scrGo_check ls _ _
    · rw [if_neg k]; exact ⟨fun h => absurd h k, fun _ => rfl⟩

theorem scrR_check {s : List UInt8} (h : (scrR s).2.2 = 0) : (checkS (scrR s).1).2 = 0 := by
  unfold scrR at h ⊢
  cases hl : linesP s with
  | none => rw [hl] at h; simp at h
  | some ls =>
    rw [hl] at h
    exact (scrGo_check ls 0 []).1 h

theorem scrR_none {s : List UInt8} (h : ¬ (scrR s).2.2 = 0) : (scrR s).1 = [] := by
  unfold scrR at h ⊢
  cases hl : linesP s with
  | none => rfl
  | some ls =>
    rw [hl] at h
    exact (scrGo_check ls 0 []).2 h

/-! ### there and back -/

theorem scDig_seen {t : List UInt8} (h : t.all isDig = true) : t.all isSeen = true := by
  rw [List.all_eq_true] at *
  intro b hb
  have := h b hb
  simp [isDig] at this
  simp [isSeen]
  omega

theorem scItoa_ok {n : Int} (h0 : -9223372036854775808 ≤ n) (h1 : n ≤ 9223372036854775807) : wordOk (itoa n) = true := by
  by_cases hn : n < 0
  · obtain ⟨m, rfl⟩ : ∃ m : Nat, n = -(m : Int) := ⟨n.natAbs, by omega⟩
    rw [itoa_neg (by omega) (by omega)]
    have := scDig_seen (dec_dig m)
    simp only [wordOk, List.all_cons, this]
    rfl
  · obtain ⟨m, rfl⟩ := Int.eq_ofNat_of_zero_le (by omega : 0 ≤ n)
    rw [itoa_pos (by omega)]
    have := scDig_seen (dec_dig m)
    have h2 := dec_ne m
    simp only [wordOk, this]
    cases hd : Lib.decDigits m with
    | nil => exact absurd hd h2
    | cons _ _ => rfl

theorem scJoin_no10 {l : List (List UInt8)} (h : l.all wordOk = true) : ∀ b ∈ joinC 32 l, b ≠ 10 := by
  have hw : ∀ w ∈ l, ∀ b ∈ w, b ≠ 10 := fun w hw b hb e => by
    have := List.all_eq_true.1 h w hw
    simp only [wordOk, Bool.and_eq_true] at this
    have := List.all_eq_true.1 this.2 b hb
    rw [e] at this
    simp [isSeen] at this
  clear h
  induction l with
  | nil => simp [joinC]
  | cons w r ih =>
    intro b hb
    cases r with
    | nil => simp [joinC] at hb; exact hw w (by simp) b hb
    | cons u r =>
      rw [joinC_cons (by simp)] at hb
      rcases List.mem_append.1 hb with hb | hb
      · exact hw w (by simp) b hb
      · rcases List.mem_cons.1 hb with rfl | hb
        · decide
        · exact ih (fun x hx => hw x (by simp [hx])) b hb

theorem words_all {l : List Int} (h : ∀ x ∈ l, -1 ≤ x ∧ x ≤ 12) : (l.map itoa).all wordOk = true := by
  rw [List.all_eq_true]
  intro w hw
  obtain ⟨x, hx, rfl⟩ := List.mem_map.1 hw
  have := h x hx
  exact scItoa_ok (by omega) (by omega)

theorem lineGo_itoa : ∀ (l out : List Int), (∀ x ∈ l, -1 ≤ x ∧ x ≤ 12) → lineGo (l.map itoa) out = (out ++ l, 0)
  | [], out, h => by simp [lineGo]
  | x :: l, out, h => by
    have hx := h x (by simp)
    rw [List.map_cons, lineGo, smP_itoa hx.1 hx.2, if_pos rfl, lineGo_itoa l _ fun y hy => h y (by simp [hy])]
    simp

theorem lineR_back {l : List Int} (h : ∀ x ∈ l, -1 ≤ x ∧ x ≤ 12) : lineR (lineW l) = (l, 0) := by
  unfold lineR lineW
  rw [words_of (words_all h)]
  simp only []
  rw [lineGo_itoa l [] h]
  simp

theorem scrGo_back : ∀ (l : List (List Int)) (i : Nat) (out : List (List Int)), (∀ r ∈ l, ∀ x ∈ r, -1 ≤ x ∧ x ≤ 12) → checkS (out ++ l) = (0, 0) → scrGo i (l.map lineW) out = (out ++ l, 0, 0)
  | [], i, out, h, hc => by
    rw [List.append_nil] at hc
    simp [scrGo, hc]
  | r :: l, i, out, h, hc => by
    rw [List.map_cons, scrGo, lineR_back (h r (by simp)), if_pos rfl, scrGo_back l _ _ (fun q hq => h q (by simp [hq])) (by simpa using hc)]
    simp

theorem scrR_back {l : List (List Int)} (h : (checkS l).2 = 0) : scrR (scrT l) = (l, 0, 0) := by
  obtain ⟨hc, _, hr⟩ := checkS_ok h
  unfold scrR scrT
  rw [lines_of (by
    intro w hw b hb
    obtain ⟨r, hr', rfl⟩ := List.mem_map.1 hw
    exact scJoin_no10 (words_all (hr r hr').2) b hb)]
  simp only []
  rw [scrGo_back l 0 [] (fun r hr' => (hr r hr').2) (by simpa using hc)]
  simp

/-! ### how long -/

theorem lineW_len {l : List Int} : (lineW l).length ≤ l.length * 22 := by
  unfold lineW
  have h : ∀ w ∈ l.map itoa, w.length ≤ 21 := fun w hw => by
    obtain ⟨x, _, rfl⟩ := List.mem_map.1 hw
    exact itoa_len x
  have : ∀ (m : List (List UInt8)), (∀ w ∈ m, w.length ≤ 21) → (joinC 32 m).length ≤ m.length * 22 := by
    intro m
    induction m with
    | nil => simp [joinC]
    | cons w r ih =>
      intro hm
      have h1 := hm w (by simp)
      cases r with
      | nil => simp [joinC]; omega
      | cons u r =>
        rw [joinC_cons (by simp), List.length_append, List.length_cons]
        have := ih fun x hx => hm x (by simp [hx])
        simp only [List.length_cons] at this ⊢
        omega
  simpa using this _ h

theorem scrT_len {l : List (List Int)} {n : Nat} (h : ∀ r ∈ l, r.length ≤ n) : (scrT l).length ≤ l.length * (n * 22 + 1) := by
  unfold scrT linesOf
  induction l with
  | nil => simp
  | cons r l ih =>
    have h1 := h r (by simp)
    have h2 := lineW_len (l := r)
    have h3 := ih fun q hq => h q (by simp [hq])
    have h4 : r.length * 22 ≤ n * 22 := Nat.mul_le_mul_right _ h1
    simp only [List.map_cons, List.flatMap_cons, List.length_append, List.length_cons, List.length_nil] at *
    rw [Nat.add_mul]
    omega

end Go.Cl
