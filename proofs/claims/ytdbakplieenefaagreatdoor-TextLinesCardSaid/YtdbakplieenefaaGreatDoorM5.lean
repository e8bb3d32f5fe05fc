/-
  Texts laid together: POpV PWord PWordS PWordJ PWordN PWordD POp PProg POpL PSet PProgS POpR PTxt.
-/
import Derived.Test.YtdbakplieenefaaGreatDoorM4
namespace Go.Cl
structure Case where
 send : Bool
 chan : Int
 v : Int
 deriving DecidableEq, Inhabited
structure OpV where
 kind : Int
 n : Int
 v : Int
 wait : Int
 cases : List Case
 deriving DecidableEq, Inhabited
def Any : Nat → Prop := fun _ => True
open Go
set_option linter.unusedSimpArgs false
set_option linter.unusedVariables false
def isLow (b : UInt8) : Bool := decide (97 ≤ b.toNat) && decide (b.toNat ≤ 122)
def isDig (b : UInt8) : Bool := decide (48 ≤ b.toNat) && decide (b.toNat ≤ 57)
def isSeen (b : UInt8) : Bool := decide (33 ≤ b.toNat) && decide (b.toNat ≤ 126)
def lows : List UInt8 := [97, 98, 99, 100, 101, 102, 103, 104, 105, 106, 107, 108, 109, 110, 111, 112, 113, 114, 115, 116, 117, 118, 119, 120, 121, 122]
def digits : List UInt8 := [48, 49, 50, 51, 52, 53, 54, 55, 56, 57]
theorem u8_forall {p : UInt8 → Prop} (h : ∀ n : Fin 256, p (UInt8.ofNat n.val)) (b : UInt8) : p b := by
 have := h ⟨b.toNat, b.toNat_lt⟩
 simpa using this
theorem lows_has (b : UInt8) : lows.contains b = isLow b := by
 revert b
 exact u8_forall (by decide +kernel)
theorem digits_has (b : UInt8) : digits.contains b = isDig b := by
 revert b
 exact u8_forall (by decide +kernel)
theorem dropWhile_nil {α : Type} {p : α → Bool} : ∀ {l : List α}, l.dropWhile p = [] ↔ l.all p = true
 | [] => by simp
 | b :: l => by
   by_cases h : p b = true
   ·simp [List.dropWhile, h, dropWhile_nil (l := l)]
   ·have h' : p b = false := by simpa using h
    simp [List.dropWhile, h']
theorem trimS_nil {l cs : List UInt8} : Lib.trimS l cs = [] ↔ l.all (fun b => cs.contains b) = true := by
 have mem : ∀ (b : UInt8), b ∈ (l.reverse.dropWhile (cs.contains ·)) → b ∈ l := fun b hb => by
  have := (List.dropWhile_sublist (l := l.reverse) (cs.contains ·)).subset hb
  simpa using this
 unfold Lib.trimS Lib.trimLeftS Lib.trimRightS
 rw [dropWhile_nil]
 constructor
 ·intro h
  have h2 : ∀ b ∈ l.reverse.dropWhile (cs.contains ·), cs.contains b = true := fun b hb => by
   have := List.all_eq_true.1 h b (by simpa using hb)
   exact this
  have h3 : l.reverse.dropWhile (cs.contains ·) = [] := by
   cases hd : l.reverse.dropWhile (cs.contains ·) with
   | nil => rfl
   | cons x t =>
     have hx := List.head?_dropWhile_not (cs.contains ·) l.reverse
     rw [hd] at hx
     simp at hx
     have := h2 x (by rw [hd]; simp)
     simp at this
     exact absurd this hx
  rw [dropWhile_nil] at h3
  simpa using h3
 ·intro h
  have h3 : l.reverse.dropWhile (cs.contains ·) = [] := by rw [dropWhile_nil]; simpa using h
  rw [h3]; rfl
def nameP (s : List UInt8) : Bool := decide (1 ≤ s.length) && decide (s.length ≤ 8) && s.all isLow
theorem trim_lows {s : List UInt8} : (Lib.trimS s lows == ([] : List UInt8)) = s.all isLow := by
 have h : s.all (fun b => lows.contains b) = s.all isLow := by congr 1; funext b; exact lows_has b
 by_cases hc : s.all isLow = true
 ·rw [hc, beq_iff_eq, trimS_nil, h, hc]
 ·have : ¬ Lib.trimS s lows = [] := fun e => hc (by rw [← h]; exact trimS_nil.1 e)
  have hf : s.all isLow = false := by simpa using hc
  rw [hf]; simpa using this
theorem trim_digits {s : List UInt8} : (Lib.trimS s digits == ([] : List UInt8)) = s.all isDig := by
 have h : s.all (fun b => digits.contains b) = s.all isDig := by congr 1; funext b; exact digits_has b
 by_cases hc : s.all isDig = true
 ·rw [hc, beq_iff_eq, trimS_nil, h, hc]
 ·have : ¬ Lib.trimS s digits = [] := fun e => hc (by rw [← h]; exact trimS_nil.1 e)
  have hf : s.all isDig = false := by simpa using hc
  rw [hf]; simpa using this
theorem isEmpty_lows {s : List UInt8} : (Lib.trimS s lows).isEmpty = s.all isLow := by
 rw [← trim_lows]; cases Lib.trimS s lows <;> rfl
theorem isEmpty_digits {s : List UInt8} : (Lib.trimS s digits).isEmpty = s.all isDig := by
 rw [← trim_digits]; cases Lib.trimS s digits <;> rfl
def linesP (s : List UInt8) : Option (List (List UInt8)) :=
 if s = [] then some [] else if Lib.hasSuffix s [10] then some (splitC 10 (Lib.trimSuffix s [10])) else none
def wordOk (w : List UInt8) : Bool := !w.isEmpty && w.all isSeen
def wordsP (s : List UInt8) : Option (List (List UInt8)) :=
 if s = [] then some [] else if (splitC 32 s).all wordOk then some (splitC 32 s) else none
def errOf (x : Option (List (List UInt8))) : Int := match x with | some _ => 0 | none => 2
def numP (s : List UInt8) : Int × Int :=
 let t := Lib.trimPrefix s [45]
 if (t == [] || !t.all isDig || (decide (1 < t.length) && t[0]? == some 48) || s == [45, 48]) then (0, 2)
 else match Lib.parseIntB 64 s with
  | .ok v => (v, 0)
  | _ => (0, 14)
theorem dec_small {u : Nat} (h : u < 10) : Lib.decDigits u = [UInt8.ofNat (48 + u)] := by rw [Lib.decDigits]; simp [h]
theorem dec_step {u : Nat} (h : ¬ u < 10) : Lib.decDigits u = Lib.decDigits (u / 10) ++ [UInt8.ofNat (48 + u % 10)] := by rw [Lib.decDigits]; simp [h]
theorem digs_len : ∀ (f u : Nat), (digs f u).length ≤ f
 | 0, _ => by simp [digs]
 | f + 1, u => by
   unfold digs
   split
   ·simp
   ·have := digs_len f (u / 10)
    simp; omega
theorem itoa_len (n : Int) : (itoa n).length ≤ 21 := by
 unfold itoa
 split
 ·have := digs_len 20 n.natAbs; simp; omega
 ·have := digs_len 20 n.toNat; omega
theorem itoa_pos {n : Nat} (h : n ≤ 9223372036854775807) : itoa (n : Int) = Lib.decDigits n := by
 rw [itoa_eq (by omega) (by omega)]
 unfold Lib.itoa
 rw [if_neg (by omega)]; simp
theorem itoa_neg {n : Nat} (h0 : 1 ≤ n) (h : n ≤ 9223372036854775808) : itoa (-(n : Int)) = 45 :: Lib.decDigits n := by
 rw [itoa_eq (by omega) (by omega)]
 unfold Lib.itoa
 rw [if_pos (by omega)]; simp
theorem suffix_iff {s : List UInt8} {c : UInt8} : Lib.hasSuffix s [c] = true ↔ ∃ t, s = t ++ [c] := by
 unfold Lib.hasSuffix
 rw [List.isSuffixOf_iff_suffix]
 constructor
 ·rintro ⟨t, h⟩; exact ⟨t, h.symm⟩
 ·rintro ⟨t, h⟩; exact ⟨t, h.symm⟩
theorem trimSuffix_snoc {t : List UInt8} {c : UInt8} : Lib.trimSuffix (t ++ [c]) [c] = t := by
 unfold Lib.trimSuffix
 rw [if_pos (suffix_iff.2 ⟨t, rfl⟩)]
 simp
structure CutAt (c : UInt8) (s : List UInt8) (frm i : Nat) (out : List (List UInt8)) : Prop where
 fi : frm ≤ i
 il : i ≤ s.length
 cut : splitC c s = out ++ splitC c (s.drop frm)
 no : ∀ k, frm ≤ k → k < i → s[k]? ≠ some c
theorem CutAt.zero (c : UInt8) (s : List UInt8) : CutAt c s 0 0 [] := ⟨by omega, by omega, by simp, fun k _ h => by omega⟩
theorem CutAt.done {c : UInt8} {s : List UInt8} {f : Nat} {out : List (List UInt8)} (k : CutAt c s f s.length out) : splitC c s = out ++ [s.drop f] := by
 rw [k.cut, splitC_none]
 intro j
 rw [List.getElem?_drop]
 by_cases h : f + j < s.length
 ·exact k.no _ (by omega) h
 ·rw [List.getElem?_eq_none (by omega)]; simp
theorem words_none {s : List UInt8} {w : List UInt8} (h0 : s ≠ []) (hw : w ∈ splitC 32 s) (hb : wordOk w = false) : wordsP s = none := by
 unfold wordsP
 rw [if_neg h0, if_neg]
 intro hh
 rw [List.all_eq_true.1 hh w hw] at hb
 cases hb
theorem CutAt.last {c : UInt8} {s : List UInt8} {f : Nat} {out : List (List UInt8)} (k : CutAt c s f s.length out) : splitC c s = out ++ [(s.take s.length).drop f] := by
 rw [List.take_length]; exact k.done
def joinC (c : UInt8) : List (List UInt8) → List UInt8
 | [] => []
 | [w] => w
 | w :: x :: ws => w ++ c :: joinC c (x :: ws)
def linesOf (l : List (List UInt8)) : List UInt8 := l.flatMap fun w => w ++ [10]
theorem joinC_cons {c : UInt8} {w : List UInt8} {ws : List (List UInt8)} (h : ws ≠ []) : joinC c (w :: ws) = w ++ c :: joinC c ws := by
 cases ws with
 | nil => exact absurd rfl h
 | cons x ws => rfl
theorem join_split (c : UInt8) : ∀ (s : List UInt8), joinC c (splitC c s) = s
 | [] => rfl
 | b :: s => by
   have ih := join_split c s
   have hne := splitC_ne c s
   simp only [splitC]
   by_cases h : b == c
   ·have hb : b = c := by simpa using h
    rw [if_pos h, joinC_cons hne, ih, hb]; rfl
   ·rw [if_neg h]
    cases hs : splitC c s with
    | nil => exact absurd hs hne
    | cons w ws =>
      rw [hs] at ih
      cases ws with
      | nil => simp only [joinC] at ih ⊢; rw [ih]
      | cons x ws => simp only [joinC] at ih ⊢; rw [← ih]; rfl
theorem splitC_word {c : UInt8} {w r : List UInt8} (h : ∀ b ∈ w, b ≠ c) : splitC c (w ++ c :: r) = w :: splitC c r := by
 have e := splitC_at (c := c) (l := w ++ c :: r) (i := w.length) (by simp) (fun k hk => by
  rw [List.getElem?_append_left hk, List.getElem?_eq_getElem hk]
  intro e
  exact h _ (List.getElem_mem hk) (Option.some.inj e))
 rw [e]
 simp
theorem splitC_only {c : UInt8} {w : List UInt8} (h : ∀ b ∈ w, b ≠ c) : splitC c w = [w] := splitC_none fun k e => by
 obtain ⟨hk, e⟩ := List.getElem?_eq_some_iff.1 e
 exact h _ (List.getElem_mem hk) e
theorem split_join {c : UInt8} : ∀ {l : List (List UInt8)}, l ≠ [] → (∀ w ∈ l, ∀ b ∈ w, b ≠ c) → splitC c (joinC c l) = l
 | [], h, _ => absurd rfl h
 | [w], _, h => by simp only [joinC]; exact splitC_only (h w (by simp))
 | w :: x :: l, _, h => by
   rw [joinC_cons (by simp), splitC_word (h w (by simp)), split_join (l := x :: l) (by simp) fun y hy => h y (by simp at hy ⊢; right; exact hy)]
theorem linesOf_join : ∀ {l : List (List UInt8)}, l ≠ [] → linesOf l = joinC 10 l ++ [10]
 | [], h => absurd rfl h
 | [w], _ => by simp [linesOf, joinC]
 | w :: x :: l, _ => by
   have ih := linesOf_join (l := x :: l) (by simp)
   rw [joinC_cons (by simp), List.append_assoc, List.cons_append, ← ih]
   simp [linesOf]
theorem lines_of {l : List (List UInt8)} (h : ∀ w ∈ l, ∀ b ∈ w, b ≠ 10) : linesP (linesOf l) = some l := by
 by_cases hl : l = []
 ·subst hl; rfl
 ·unfold linesP
  have e := linesOf_join hl
  rw [e, if_neg (by simp), if_pos (suffix_iff.2 ⟨_, rfl⟩), trimSuffix_snoc, split_join hl h]
theorem of_lines {s : List UInt8} {l : List (List UInt8)} (h : linesP s = some l) : linesOf l = s := by
 unfold linesP at h
 split at h
 ·rename_i h0
  cases h; rw [h0]; rfl
 ·split at h
  ·rename_i h1
   cases h
   obtain ⟨t, rfl⟩ := suffix_iff.1 h1
   rw [trimSuffix_snoc, linesOf_join (splitC_ne _ _), join_split]
  ·cases h
theorem of_words {s : List UInt8} {l : List (List UInt8)} (h : wordsP s = some l) : joinC 32 l = s := by
 unfold wordsP at h
 split at h
 ·rename_i h0
  cases h; rw [h0]; rfl
 ·split at h
  ·cases h; exact join_split 32 s
  ·cases h
def dval (acc : Nat) (t : List UInt8) : Nat := t.foldl (fun a c => a * 10 + (c.toNat - 48)) acc
theorem dval_nil {acc : Nat} : dval acc [] = acc := rfl
theorem dval_cons {acc : Nat} {c : UInt8} {r : List UInt8} : dval acc (c :: r) = dval (acc * 10 + (c.toNat - 48)) r := by simp only [dval, List.foldl_cons]
theorem dval_ge : ∀ (t : List UInt8) (acc : Nat), acc ≤ dval acc t
 | [], acc => by rw [dval_nil]; exact Nat.le_refl acc
 | c :: r, acc => by
   have := dval_ge r (acc * 10 + (c.toNat - 48))
   rw [dval_cons]
   omega
theorem parseM_nil {M acc : Nat} : Lib.parseUintM M acc [] = .ok acc := by simp [Lib.parseUintM]
theorem parseM_cons {M acc : Nat} {c : UInt8} {r : List UInt8} (hc : 48 ≤ c.toNat ∧ c.toNat ≤ 57) : Lib.parseUintM M acc (c :: r) =
  if 1844674407370955162 ≤ acc then .range else if M < acc * 10 + (c.toNat - 48) then .range else Lib.parseUintM M (acc * 10 + (c.toNat - 48)) r := by
 simp only [Lib.parseUintM, if_pos hc]
theorem parseM (M : Nat) (hM : M = 18446744073709551615) : ∀ (t : List UInt8) (acc v : Nat), t.all isDig = true → acc ≤ M → dval acc t = v →
  Lib.parseUintM M acc t = if v ≤ M then .ok v else .range
 | [], acc, v, _, ha, hv => by
   rw [dval_nil] at hv
   subst hv
   rw [parseM_nil, if_pos ha]
 | c :: r, acc, v, hd, ha, hv => by
   simp only [List.all_cons, Bool.and_eq_true] at hd
   have hc := hd.1
   simp only [isDig, Bool.and_eq_true, decide_eq_true_eq] at hc
   have hge := dval_ge r (acc * 10 + (c.toNat - 48))
   rw [dval_cons] at hv
   rw [parseM_cons hc]
   rw [hv] at hge
   by_cases h1 : 1844674407370955162 ≤ acc
   ·rw [if_pos h1, if_neg (by omega)]
   ·rw [if_neg h1]
    by_cases h2 : M < acc * 10 + (c.toNat - 48)
    ·rw [if_pos h2, if_neg (by omega)]
    ·rw [if_neg h2]
     exact parseM M hM r _ v hd.2 (by omega) hv
def signed (minus : Bool) (t : List UInt8) : List UInt8 := if minus then 45 :: t else t
def numV (minus : Bool) (v : Nat) : Int × Int :=
 if minus then (if v ≤ 9223372036854775808 then (-(v : Int), 0) else (0, 14)) else if v < 9223372036854775808 then ((v : Int), 0) else (0, 14)
theorem trim_signed {minus : Bool} {t : List UInt8} (h : minus = false → t[0]? ≠ some 45) : Lib.trimPrefix (signed minus t) [45] = t := by
 cases minus with
 | true => simp [signed, Lib.trimPrefix, Lib.hasPrefix, List.isPrefixOf]
 | false =>
   have := h rfl
   unfold signed Lib.trimPrefix Lib.hasPrefix
   cases t with
   | nil => rfl
   | cons b t =>
     simp at this
     have hb : ((45 : UInt8) == b) = false := by
      rw [beq_eq_false_iff_ne]; exact fun e => this e.symm
     simp [List.isPrefixOf, hb]
theorem numP_form {minus : Bool} {t : List UInt8} (h : minus = false → t[0]? ≠ some 45) (k : t = [] ∨ t.all isDig = false ∨ (t[0]? = some 48 ∧ (1 < t.length ∨ minus = true))) : numP (signed minus t) = (0, 2) := by
 unfold numP
 simp only [trim_signed h]
 rw [if_pos]
 rcases k with k | k | ⟨k1, k2 | k2⟩
 ·simp [k]
 ·simp [k]
 ·simp [k1, k2]
 ·subst k2
  by_cases hl : 1 < t.length
  ·simp [k1, hl]
  ·cases t with
   | nil => simp at k1
   | cons b t =>
     simp at k1 hl
     subst k1
     have : t = [] := by
      cases t with
      | nil => rfl
      | cons _ _ => simp at hl
     subst this
     rfl
theorem numP_good {minus : Bool} {t : List UInt8} (h0 : t ≠ []) (hd : t.all isDig = true) (hz : ¬ (t[0]? = some 48 ∧ (1 < t.length ∨ minus = true))) : numP (signed minus t) = numV minus (dval 0 t) := by
 obtain ⟨b, r, rfl⟩ : ∃ b r, t = b :: r := by
  cases t with
  | nil => exact absurd rfl h0
  | cons b r => exact ⟨b, r, rfl⟩
 have hb : isDig b = true := by simp only [List.all_cons, Bool.and_eq_true] at hd; exact hd.1
 have hb' := hb
 simp only [isDig, Bool.and_eq_true, decide_eq_true_eq] at hb'
 have hne45 : b ≠ 45 := by rintro rfl; simp at hb'
 unfold numP
 simp only [trim_signed (minus := minus) (t := b :: r) (by simp [hne45])]
 rw [if_neg]
 ·obtain ⟨v, hv⟩ : ∃ v, dval 0 (b :: r) = v := ⟨_, rfl⟩
  obtain ⟨M, hM⟩ : ∃ M, M = 2 ^ 64 - 1 := ⟨_, rfl⟩
  have hM' : M = 18446744073709551615 := hM
  have hp : Lib.parseUintB 64 (b :: r) = if v ≤ M then .ok v else .range := by
   unfold Lib.parseUintB
   rw [if_neg (by simp), ← hM]
   exact parseM M hM' _ _ _ hd (by omega) hv
  rw [hv]
  obtain ⟨C, hC⟩ : ∃ C, C = 2 ^ (64 - 1) := ⟨_, rfl⟩
  have hC' : C = 9223372036854775808 := hC
  cases minus with
  | true =>
    rw [show signed true (b :: r) = 45 :: b :: r by simp [signed], Lib.parseIntB_minus, hp, ← hC]
    by_cases h1 : v ≤ M
    ·rw [if_pos h1]
     simp only [Lib.signedC, numV]
     by_cases h2 : v ≤ 9223372036854775808
     ·have : ¬ C < v := by omega
      simp [h2, this]
     ·have : C < v := by omega
      simp [h2, this]
    ·rw [if_neg h1]
     have : ¬ v ≤ 9223372036854775808 := by omega
     simp [Lib.signedC, numV, this]
  | false =>
    rw [show signed false (b :: r) = b :: r by simp [signed], Lib.parseIntB_plain _ _ _ (by omega) (by omega), hp, ← hC]
    by_cases h1 : v ≤ M
    ·rw [if_pos h1]
     simp only [Lib.signlessC, numV]
     by_cases h2 : v < 9223372036854775808
     ·have : ¬ C ≤ v := by omega
      simp [h2, this]
     ·have : C ≤ v := by omega
      simp [h2, this]
    ·rw [if_neg h1]
     have : ¬ v < 9223372036854775808 := by omega
     simp [Lib.signlessC, numV, this]
 ·intro hh
  simp only [Bool.or_eq_true, Bool.and_eq_true, Bool.not_eq_true', beq_iff_eq, decide_eq_true_eq] at hh
  rcases hh with ((hh | hh) | ⟨h1, h2⟩) | hh
  ·cases hh
  ·rw [hd] at hh; cases hh
  ·exact hz ⟨h2, .inl h1⟩
  ·cases minus with
   | false =>
     simp only [signed] at hh
     simp at hh
     exact hne45 hh.1
   | true =>
     simp only [signed] at hh
     simp at hh
     exact hz ⟨by simp [hh.1], .inr rfl⟩
theorem dval_snoc {a : Nat} {t : List UInt8} {c : UInt8} : dval a (t ++ [c]) = dval a t * 10 + (c.toNat - 48) := by
 simp only [dval, List.foldl_append, List.foldl_cons, List.foldl_nil]
theorem digit_toNat {d : Nat} (h : d < 10) : (UInt8.ofNat (48 + d)).toNat = 48 + d := by
 simp; omega
theorem dec_dig (u : Nat) : (Lib.decDigits u).all isDig = true := by
 induction u using Nat.strongRecOn with
 | _ u ih =>
   by_cases h : u < 10
   ·rw [dec_small h]
    simp only [List.all_cons, List.all_nil, isDig, digit_toNat h]
    simp; omega
   ·rw [dec_step h, List.all_append, ih (u / 10) (by omega)]
    simp only [List.all_cons, List.all_nil, isDig, digit_toNat (show u % 10 < 10 by omega)]
    simp; omega
theorem dec_ne (u : Nat) : Lib.decDigits u ≠ [] := by
 by_cases h : u < 10
 ·rw [dec_small h]; simp
 ·rw [dec_step h]; simp
theorem dval_pos : ∀ {t : List UInt8}, t.all isDig = true → t ≠ [] → t[0]? ≠ some 48 → 1 ≤ dval 0 t
 | [], _, h, _ => absurd rfl h
 | c :: r, hd, _, hz => by
   simp only [List.all_cons, Bool.and_eq_true, isDig, decide_eq_true_eq] at hd
   have hge := dval_ge r (0 * 10 + (c.toNat - 48))
   rw [dval_cons]
   have : c.toNat ≠ 48 := fun e => hz (by simp; apply UInt8.toNat.inj; simpa using e)
   omega
theorem dec_dval : ∀ (n : Nat) (t : List UInt8), t.length ≤ n → t.all isDig = true → t ≠ [] → (t[0]? = some 48 → t.length = 1) → Lib.decDigits (dval 0 t) = t
 | 0, t, hl, _, h, _ => absurd (List.length_eq_zero_iff.1 (by omega)) h
 | n + 1, t, hl, hd, h, hz => by
   obtain ⟨r, c, rfl⟩ : ∃ r c, t = r ++ [c] := ⟨t.dropLast, t.getLast h, (List.dropLast_concat_getLast h).symm⟩
   rw [List.all_append, Bool.and_eq_true] at hd
   have hc := hd.2
   simp only [List.all_cons, List.all_nil, Bool.and_true, isDig, Bool.and_eq_true, decide_eq_true_eq] at hc
   have hcc : UInt8.ofNat (48 + (c.toNat - 48)) = c := by
    apply UInt8.toNat.inj
    rw [digit_toNat (by omega)]; omega
   rw [dval_snoc]
   by_cases hr : r = []
   ·subst hr
    rw [dval_nil, dec_small (by omega)]
    simp only [Nat.zero_mul, Nat.zero_add, List.nil_append]
    rw [hcc]
   ·have hrl := List.length_pos_iff.2 hr
    have hz' : r[0]? ≠ some 48 := fun e => by
     have := hz (by rw [List.getElem?_append_left hrl]; exact e)
     rw [List.length_append, List.length_singleton] at this; omega
    have hp := dval_pos hd.1 hr hz'
    rw [dec_step (by omega), show (dval 0 r * 10 + (c.toNat - 48)) / 10 = dval 0 r by omega, show (dval 0 r * 10 + (c.toNat - 48)) % 10 = c.toNat - 48 by omega, hcc,
     dec_dval n r (by simp at hl; omega) hd.1 hr fun e => absurd e hz']
theorem itoa_numP {s : List UInt8} (h : (numP s).2 = 0) : itoa (numP s).1 = s := by
 have key : ∀ (minus : Bool) (t : List UInt8), s = signed minus t → (minus = false → t[0]? ≠ some 45) → itoa (numP s).1 = s := by
  intro minus t hst hm
  by_cases k : t = [] ∨ t.all isDig = false ∨ (t[0]? = some 48 ∧ (1 < t.length ∨ minus = true))
  ·rw [hst, numP_form hm k] at h; cases h
  ·have k1 : t ≠ [] := fun e => k (.inl e)
   have k2 : t.all isDig = true := by
    cases e : t.all isDig with
    | true => rfl
    | false => exact absurd (.inr (.inl e)) k
   have k3 : ¬ (t[0]? = some 48 ∧ (1 < t.length ∨ minus = true)) := fun e => k (.inr (.inr e))
   have hg := numP_good (minus := minus) k1 k2 k3
   rw [← hst] at hg
   have hpos := List.length_pos_iff.2 k1
   have hd := dec_dval t.length t (Nat.le_refl _) k2 k1 (fun e => by
    by_cases hl : 1 < t.length
    ·exact absurd ⟨e, .inl hl⟩ k3
    ·omega)
   cases minus with
   | true =>
     have h48 : t[0]? ≠ some 48 := fun e => k3 ⟨e, .inr rfl⟩
     have hp := dval_pos k2 k1 h48
     unfold numV at hg
     simp only [if_true] at hg
     split at hg
     ·rename_i hle
      rw [hg, itoa_neg hp hle, hd, hst]; simp [signed]
     ·rw [hg] at h; cases h
   | false =>
     unfold numV at hg
     simp only [Bool.false_eq_true, if_false] at hg
     split at hg
     ·rename_i hle
      rw [hg, itoa_pos (by omega), hd, hst]; simp [signed]
     ·rw [hg] at h; cases h
 cases s with
 | nil => exact key false [] (by simp [signed]) (by simp)
 | cons b t =>
   by_cases hb : b = 45
   ·subst hb; exact key true t (by simp [signed]) (by simp)
   ·exact key false (b :: t) (by simp [signed]) (by simpa using hb)
theorem numP_in (s : List UInt8) : -9223372036854775808 ≤ (numP s).1 ∧ (numP s).1 ≤ 9223372036854775807 := by
 cases hp : Lib.parseIntB 64 s with
 | ok v =>
   have hb := Lib.parseIntB_bounds hp
   simp at hb
   simp only [numP, hp]
   split
   ·decide
   ·exact ⟨hb.1, by show v ≤ _; omega⟩
 | range => simp only [numP, hp]; split <;> decide
 | _ => simp only [numP, hp]; split <;> decide
abbrev Wd := List UInt8
abbrev wRun : Wd := [114, 117, 110]
abbrev wLock : Wd := [108, 111, 99, 107]
abbrev wUnlock : Wd := [117, 110, 108, 111, 99, 107]
abbrev wSend : Wd := [115, 101, 110, 100]
abbrev wRecv : Wd := [114, 101, 99, 118]
abbrev wClose : Wd := [99, 108, 111, 115, 101]
abbrev wSelect : Wd := [115, 101, 108, 101, 99, 116]
abbrev wLoop : Wd := [108, 111, 111, 112]
abbrev wEnd : Wd := [101, 110, 100]
def isWait (k : Int) : Bool := decide (k = 4) || decide (k = 5) || decide (k = 7)
def waitsP (x : OpV) : Bool := isWait x.kind && !decide (x.wait = 0)
def leastOf (k : Int) : Int := if k = 1 ∨ k = 8 then 1 else 0
def mostOf (k : Int) : Int := if k = 1 then 1000 else if 2 ≤ k ∧ k ≤ 6 then 7 else if k = 8 then 32 else 0
def wordOf (k : Int) : Wd := if k = 1 then wRun else if k = 2 then wLock else if k = 3 then wUnlock else if k = 4 then wSend else if k = 5 then wRecv else if k = 6 then wClose else if k = 7 then wSelect else if k = 8 then wLoop else if k = 9 then wEnd else []
def kindOf (w : Wd) : Int := if w = wRun then 1 else if w = wLock then 2 else if w = wUnlock then 3 else if w = wSend then 4 else if w = wRecv then 5 else if w = wClose then 6 else if w = wSelect then 7 else if w = wLoop then 8 else if w = wEnd then 9 else 0
theorem kinds9 {k : Int} (h0 : 1 ≤ k) (h1 : k ≤ 9) : k = 1 ∨ k = 2 ∨ k = 3 ∨ k = 4 ∨ k = 5 ∨ k = 6 ∨ k = 7 ∨ k = 8 ∨ k = 9 := by omega
theorem kind_word {k : Int} (h0 : 1 ≤ k) (h1 : k ≤ 9) : kindOf (wordOf k) = k := by
 rcases kinds9 h0 h1 with rfl | rfl | rfl | rfl | rfl | rfl | rfl | rfl | rfl <;> rfl
theorem word_ok {k : Int} (h0 : 1 ≤ k) (h1 : k ≤ 9) : wordOk (wordOf k) = true := by
 rcases kinds9 h0 h1 with rfl | rfl | rfl | rfl | rfl | rfl | rfl | rfl | rfl <;> rfl
theorem kind_le (w : Wd) : 0 ≤ kindOf w ∧ kindOf w ≤ 9 := by
 unfold kindOf
 repeat' split
 all_goals omega
theorem word_kind {w : Wd} (h : 1 ≤ kindOf w) : wordOf (kindOf w) = w := by
 unfold kindOf at h ⊢
 by_cases h1 : w = wRun
 ·subst h1; rfl
 by_cases h2 : w = wLock
 ·subst h2; rfl
 by_cases h3 : w = wUnlock
 ·subst h3; rfl
 by_cases h4 : w = wSend
 ·subst h4; rfl
 by_cases h5 : w = wRecv
 ·subst h5; rfl
 by_cases h6 : w = wClose
 ·subst h6; rfl
 by_cases h7 : w = wSelect
 ·subst h7; rfl
 by_cases h8 : w = wLoop
 ·subst h8; rfl
 by_cases h9 : w = wEnd
 ·subst h9; rfl
 ·rw [if_neg h1, if_neg h2, if_neg h3, if_neg h4, if_neg h5, if_neg h6, if_neg h7, if_neg h8, if_neg h9] at h
  omega
def caseBad (c : Case) : Bool := decide (c.chan < 0) || decide (8 ≤ c.chan) || (!c.send && !decide (c.v = 0))
def casesGo : List Case → List Case → Int
 | _, [] => 0
 | pre, c :: r => if caseBad c then 1 else if pre.any (fun x => decide (x.chan = c.chan)) then 6 else casesGo (pre ++ [c]) r
def casesP (l : List Case) : Int := if l.length < 1 ∨ 4 < l.length then 18 else casesGo [] l
def opCheckP (x : OpV) : Int :=
 if x.kind < 1 ∨ 9 < x.kind then 3
 else if x.n < leastOf x.kind ∨ mostOf x.kind < x.n ∨ (x.kind ≠ 4 ∧ x.v ≠ 0) then 1
 else if (isWait x.kind = false ∧ x.wait ≠ 0) ∨ x.wait < -1 ∨ 1000 < x.wait then 1
 else if x.kind = 7 then casesP x.cases
 else if x.cases ≠ [] then 1 else 0
theorem casesGo_valid : ∀ (l pre : List Case), casesGo pre l = 0 → ∀ c ∈ l, caseBad c = false
 | [], _, _, c, hc => by simp at hc
 | d :: r, pre, h, c, hc => by
   unfold casesGo at h
   by_cases hb : caseBad d = true
   ·rw [if_pos hb] at h; omega
   ·rw [if_neg hb] at h
    split at h
    ·omega
    ·rcases List.mem_cons.1 hc with rfl | hc
     ·simpa using hb
     ·exact casesGo_valid r _ h c hc
def waitW (n : Int) : Wd := if n = -1 then [45] else itoa n
def told (c : Case) : List Wd := if c.send then [wSend, itoa c.chan, itoa c.v] else [wRecv, itoa c.chan]
def opWords (x : OpV) : List Wd := wordOf x.kind ::
 (if x.kind = 4 then [itoa x.n, itoa x.v, waitW x.wait] else if x.kind = 5 then [itoa x.n, waitW x.wait] else if x.kind = 7 then waitW x.wait :: x.cases.flatMap told else if x.kind = 9 then [] else [itoa x.n])
def opText (x : OpV) : Wd := if x.kind < 1 ∨ 9 < x.kind then [] else joinC 32 (opWords x)
def op0 : OpV := ⟨0, 0, 0, 0, []⟩
def clamp (n : Int) : Int := max (min n 8) (-1)
def numR (e : Int) (a : Wd) : Int × Int := if e = 0 then numP a else (0, e)
def waitR (e : Int) (a : Wd) : Int × Int := if e = 0 then (if a = [45] then (-1, 0) else if (numP a).2 = 0 ∧ (numP a).1 < 0 then ((numP a).1, 2) else numP a) else (0, e)
def runP : List Wd → List Case → Int → List Case × Int
 | w :: a :: b :: r, acc, e =>
   if w = wSend then runP r (acc ++ [⟨true, clamp (numR e a).1, (numR (numR e a).2 b).1⟩]) (numR (numR e a).2 b).2
   else runP (b :: r) (acc ++ [⟨false, clamp (numR e a).1, 0⟩]) (numR e a).2
 | [w, a], acc, e => if w = wSend then (acc, e) else (acc ++ [⟨false, clamp (numR e a).1, 0⟩], (numR e a).2)
 | [_], acc, e => (acc, e)
 | [], acc, e => (acc, e)
def shapedP : List Wd → Bool
 | w :: a :: b :: r => if w = wSend then shapedP r else if w = wRecv then shapedP (b :: r) else false
 | [w, _] => decide (w = wRecv)
 | [_] => false
 | [] => true
def countP (k : Int) (l : List Wd) : Bool :=
 if k = 4 then decide (l.length = 3) else if k = 5 then decide (l.length = 2) else if k = 7 then (match l with | [] => false | _ :: r => shapedP r) else if k = 9 then decide (l.length = 0) else decide (l.length = 1)
def at_ (l : List Wd) (i : Nat) : Wd := (l[i]?).getD []
def readP (k : Int) (l : List Wd) : OpV × Int :=
 if k = 4 then
  let x := numR 0 (at_ l 0)
  let y := numR x.2 (at_ l 1)
  let z := waitR y.2 (at_ l 2)
  (⟨4, x.1, y.1, z.1, []⟩, z.2)
 else if k = 5 then
  let x := numR 0 (at_ l 0)
  let z := waitR x.2 (at_ l 1)
  (⟨5, x.1, 0, z.1, []⟩, z.2)
 else if k = 7 then
  let z := waitR 0 (at_ l 0)
  let q := runP l.tail [] z.2
  (⟨7, 0, 0, z.1, q.1⟩, q.2)
 else if k = 9 then (⟨9, 0, 0, 0, []⟩, 0)
 else
  let x := numR 0 (at_ l 0)
  (⟨k, x.1, 0, 0, []⟩, x.2)
def finP (q : OpV × Int) : OpV × Int := if q.2 = 0 then (if opCheckP q.1 = 0 then (q.1, 0) else (op0, opCheckP q.1)) else (op0, q.2)
def parseW (w : Wd) (l : List Wd) : OpV × Int := if kindOf w < 1 ∨ countP (kindOf w) l = false then (op0, 2) else finP (readP (kindOf w) l)
def parseP (s : Wd) : OpV × Int :=
 match wordsP s with
 | none => (op0, 2)
 | some [] => (op0, 2)
 | some (w :: l) => parseW w l
abbrev Ord := List Int × List (List Int)
def takeP (s : Ord) (o : OpV) : Option Ord :=
 if o.kind = 8 then (if s.2.length < 3 then some (s.1, s.1 :: s.2) else none)
 else if o.kind = 9 then (match s.2 with | [] => none | f :: r => if f = s.1 then some (s.1, r) else none)
 else if o.kind = 2 then (match s.1 with | [] => some ([o.n], s.2) | x :: t => if o.n ≤ x then none else some (o.n :: x :: t, s.2))
 else if o.kind = 3 then (match s.1 with | [] => none | x :: t => if x = o.n then some (t, s.2) else none)
 else if waitsP o = true ∧ s.1 ≠ [] then none else some s
def orderP : List OpV → Ord → Nat → Nat ⊕ Ord
 | [], s, _ => .inr s
 | o :: r, s, i => match takeP s o with
   | none => .inl i
   | some s' => orderP r s' (i + 1)
def badP : List OpV → Nat → Option (Nat × Int)
 | [], _ => none
 | o :: r, i => if opCheckP o = 0 then badP r (i + 1) else some (i, opCheckP o)
theorem badP_none : ∀ {l : List OpV} {i : Nat}, badP l i = none → ∀ o ∈ l, opCheckP o = 0
 | [], _, _, o, h => by simp at h
 | x :: r, i, h, o, ho => by
   unfold badP at h
   by_cases hx : opCheckP x = 0
   ·rw [if_pos hx] at h
    rcases List.mem_cons.1 ho with rfl | ho
    ·exact hx
    ·exact badP_none h o ho
   ·rw [if_neg hx] at h; cases h
def eachP (g : OpV → Int → Int) : List OpV → Int → List Int → Int → Int
 | [], _, _, acc => acc
 | o :: r, t, ts, acc =>
   if o.kind = 8 then eachP g r (t * o.n) (t :: ts) acc
   else if o.kind = 9 then (match ts with | [] => eachP g r t [] acc | u :: us => eachP g r u us acc)
   else eachP g r t ts (acc + g o t)
def stepsP (p : List OpV) : Int := eachP (fun _ t => t) p 1 [] 0
def gCost (o : OpV) (t : Int) : Int := if o.kind = 1 then o.n * t else 0
def costP (p : List OpV) : Int := eachP gCost p 1 [] 0
def progP (p : List OpV) : Int × Int :=
 if 48 < p.length then (0, 18)
 else match badP p 0 with
  | some (i, e) => (i, e)
  | none => match orderP p ([], []) 0 with
    | .inl i => (i, 11)
    | .inr s => if s.2 ≠ [] ∨ s.1 ≠ [] then ((p.length : Int) - 1, 11) else if 512 < stepsP p then (0, 4) else (0, 0)
inductive Fo where
 | nil
 | op (o : OpV) (r : Fo)
 | loop (o : OpV) (b : Fo) (e : OpV) (r : Fo)
def Fo.tok : Fo → List OpV
 | .nil => []
 | .op o r => o :: r.tok
 | .loop o b e r => o :: (b.tok ++ e :: r.tok)
def Fo.wf : Fo → Prop
 | .nil => True
 | .op o r => o.kind ≠ 8 ∧ o.kind ≠ 9 ∧ r.wf
 | .loop o b e r => o.kind = 8 ∧ e.kind = 9 ∧ b.wf ∧ r.wf
def Fo.flat : Fo → List OpV
 | .nil => []
 | .op o r => o :: r.flat
 | .loop o b _ r => (List.replicate o.n.toNat b.flat).flatten ++ r.flat
def Fo.sum (g : OpV → Int → Int) : Fo → Int → Int
 | .nil, _ => 0
 | .op o r, t => g o t + r.sum g t
 | .loop o b _ r, t => b.sum g (t * o.n) + r.sum g t
def Fo.app : Fo → Fo → Fo
 | .nil, f => f
 | .op o r, f => .op o (r.app f)
 | .loop o b e r, f => .loop o b e (r.app f)
def closes : List OpV → Nat → Fo → List (OpV × Fo) → Prop
 | l, d, f, es => l = f.tok ++ es.flatMap (fun q => q.1 :: q.2.tok) ∧ es.length = d ∧ f.wf ∧ ∀ q ∈ es, q.1.kind = 9 ∧ q.2.wf
theorem order_tree : ∀ (l : List OpV) (s s' : Ord) (i : Nat), orderP l s i = .inr s' → s'.2 = [] → ∃ f es, closes l s.2.length f es := by
 intro l
 induction l with
 | nil =>
   intro s s' i h h0
   simp only [orderP, Sum.inr.injEq] at h
   subst h
   exact ⟨.nil, [], by simp [Fo.tok], by simp [h0], trivial, by simp⟩
 | cons o r ih =>
   intro s s' i h h0
   simp only [orderP] at h
   cases ht : takeP s o with
   | none => rw [ht] at h; cases h
   | some t =>
     rw [ht] at h
     obtain ⟨f, es, hl, hd, hf, he⟩ := ih t s' (i + 1) h h0
     unfold takeP at ht
     by_cases k8 : o.kind = 8
     ·rw [if_pos k8] at ht
      split at ht
      ·simp only [Option.some.injEq] at ht
       subst ht
       match es, hd, hl, he with
       | (e, g) :: es, hd, hl, he =>
         have h1 := he (e, g) (by simp)
         refine ⟨.loop o f e g, es, ?_, by simpa using hd, ⟨k8, h1.1, hf, h1.2⟩, fun q hq => he q (by simp [hq])⟩
         rw [hl]
         simp [Fo.tok]
      ·cases ht
     ·rw [if_neg k8] at ht
      by_cases k9 : o.kind = 9
      ·rw [if_pos k9] at ht
       split at ht
       ·cases ht
       ·rename_i q u us hs
        split at ht
        ·simp only [Option.some.injEq] at ht
         subst ht
         refine ⟨.nil, (o, f) :: es, ?_, ?_, trivial, fun q hq => ?_⟩
         ·rw [hl]; simp [Fo.tok]
         ·rw [hs]; simp [hd]
         ·rcases List.mem_cons.1 hq with rfl | hq
          ·exact ⟨k9, hf⟩
          ·exact he q hq
        ·cases ht
      ·rw [if_neg k9] at ht
       have hs : t.2 = s.2 := by
        repeat' split at ht
        all_goals first | (cases ht; done) | (simp only [Option.some.injEq] at ht; subst ht; rfl)
       exact ⟨.op o f, es, by rw [hl]; simp [Fo.tok], by rw [hd, hs], ⟨k8, k9, hf⟩, he⟩
theorem tree_of {l : List OpV} {s' : Ord} {i : Nat} (h : orderP l ([], []) i = .inr s') (h0 : s'.2 = []) : ∃ f : Fo, f.tok = l ∧ f.wf := by
 obtain ⟨f, es, hl, hd, hf, _⟩ := order_tree l _ _ _ h h0
 have : es = [] := List.eq_nil_of_length_eq_zero hd
 subst this
 exact ⟨f, by rw [hl]; simp, hf⟩
theorem each_tree {g : OpV → Int → Int} : ∀ (f : Fo) (r : List OpV) (t : Int) (ts : List Int) (acc : Int), f.wf → eachP g (f.tok ++ r) t ts acc = eachP g r t ts (acc + f.sum g t)
 | .nil, r, t, ts, acc, _ => by simp [Fo.tok, Fo.sum]
 | .op o f, r, t, ts, acc, h => by
   simp only [Fo.tok, List.cons_append, eachP, if_neg h.1, if_neg h.2.1, Fo.sum]
   rw [each_tree f r t ts _ h.2.2]
   congr 1
   omega
 | .loop o b e f, r, t, ts, acc, h => by
   obtain ⟨h8, h9, hb, hf⟩ := h
   have e8 : ¬ e.kind = 8 := by omega
   simp only [Fo.tok, List.cons_append, List.append_assoc, eachP, if_pos h8, Fo.sum]
   rw [each_tree b _ _ _ _ hb]
   simp only [eachP, if_neg e8, if_pos h9]
   rw [each_tree f r t ts _ hf]
   congr 1
   omega
theorem sum_lin {g : OpV → Int → Int} (hg : ∀ o t, g o t = t * g o 1) : ∀ (f : Fo) (t : Int), f.sum g t = t * f.sum g 1
 | .nil, t => by simp [Fo.sum]
 | .op o f, t => by
   simp only [Fo.sum]
   rw [hg o t, sum_lin hg f t, Int.mul_add]
 | .loop o b e f, t => by
   simp only [Fo.sum]
   rw [sum_lin hg b (t * o.n), sum_lin hg f t, sum_lin hg b (1 * o.n), Int.mul_add, Int.one_mul, Int.mul_assoc]
def sumL (g : OpV → Int) (l : List OpV) : Int := (l.map g).sum
theorem sumL_app (g : OpV → Int) (a b : List OpV) : sumL g (a ++ b) = sumL g a + sumL g b := by simp [sumL]
theorem sumL_rep (g : OpV → Int) (n : Nat) (a : List OpV) : sumL g (List.replicate n a).flatten = n * sumL g a := by
 induction n with
 | zero => simp [sumL]
 | succ n ih =>
   rw [List.replicate_succ, List.flatten_cons, sumL_app, ih]
   rw [show ((n + 1 : Nat) : Int) = (n : Int) + 1 by omega, Int.add_mul]
   omega
theorem flat_sum {g : OpV → Int → Int} (hg : ∀ o t, g o t = t * g o 1) : ∀ (f : Fo), f.wf → (∀ o ∈ f.tok, o.kind = 8 → 0 ≤ o.n) → sumL (fun o => g o 1) f.flat = f.sum g 1
 | .nil, _, _ => by simp [Fo.flat, Fo.sum, sumL]
 | .op o f, h, hn => by
   have := flat_sum hg f h.2.2 fun o ho => hn o (by simp [Fo.tok, ho])
   simp only [Fo.flat, Fo.sum]
   rw [← this]
   simp [sumL]
 | .loop o b e f, h, hn => by
   have h1 := flat_sum hg b h.2.2.1 fun o ho => hn o (by simp [Fo.tok, ho])
   have h2 := flat_sum hg f h.2.2.2 fun o ho => hn o (by simp [Fo.tok, ho])
   have h3 := hn o (by simp [Fo.tok]) h.1
   simp only [Fo.flat, Fo.sum]
   rw [sumL_app, sumL_rep, h1, h2, sum_lin hg b (1 * o.n), Int.one_mul, Int.toNat_of_nonneg h3]
theorem cost_lin (o : OpV) (t : Int) : gCost o t = t * gCost o 1 := by
 unfold gCost
 split
 ·rw [Int.mul_one, Int.mul_comm]
 ·simp
theorem cost_flat {f : Fo} (h : f.wf) (hn : ∀ o ∈ f.tok, o.kind = 8 → 0 ≤ o.n) : sumL (fun o => gCost o 1) f.flat = costP f.tok := by
 rw [flat_sum cost_lin f h hn]
 have := each_tree (g := gCost) f [] 1 [] 0 h
 rw [List.append_nil] at this
 unfold costP
 rw [this]
 simp [eachP]
theorem len_flat {f : Fo} (h : f.wf) (hn : ∀ o ∈ f.tok, o.kind = 8 → 0 ≤ o.n) : (f.flat.length : Int) = stepsP f.tok := by
 have h1 := flat_sum (g := fun _ t => t) (fun o t => by simp) f h hn
 have h2 := each_tree (g := fun _ t => t) f [] 1 [] 0 h
 rw [List.append_nil] at h2
 unfold stepsP
 rw [h2]
 simp only [eachP, Int.zero_add, ← h1]
 have : ∀ l : List OpV, sumL (fun _ => (1 : Int)) l = l.length := fun l => by
  induction l with
  | nil => rfl
  | cons o l ih =>
    have : sumL (fun _ => (1 : Int)) (o :: l) = 1 + sumL (fun _ => (1 : Int)) l := by simp [sumL]
    rw [this, ih]
    simp
    omega
 exact (this f.flat).symm
def scanP : List OpV → Int → Nat → Option Nat
 | [], _, _ => none
 | o :: r, d, i => if o.kind = 8 then scanP r (d + 1) (i + 1) else if o.kind = 9 then (if d - 1 = 0 then some i else scanP r (d - 1) (i + 1)) else scanP r d (i + 1)
theorem scan_tree : ∀ (f : Fo) (r : List OpV) (d : Int) (i : Nat), f.wf → 1 ≤ d → scanP (f.tok ++ r) d i = scanP r d (i + f.tok.length)
 | .nil, r, d, i, _, _ => by simp [Fo.tok]
 | .op o f, r, d, i, h, hd => by
   simp only [Fo.tok, List.cons_append, scanP, if_neg h.1, if_neg h.2.1, List.length_cons]
   rw [scan_tree f r d (i + 1) h.2.2 hd, show i + 1 + f.tok.length = i + (f.tok.length + 1) by omega]
 | .loop o b e f, r, d, i, h, hd => by
   obtain ⟨h8, h9, hb, hf⟩ := h
   have e8 : ¬ e.kind = 8 := by omega
   simp only [Fo.tok, List.cons_append, List.append_assoc, scanP, if_pos h8, List.length_cons, List.length_append]
   rw [scan_tree b _ (d + 1) (i + 1) hb (by omega)]
   simp only [scanP, if_neg e8, if_pos h9]
   rw [if_neg (by omega), show d + 1 - 1 = d by omega, scan_tree f r d _ hf hd]
   congr 1
   omega
theorem scan_loop {o e : OpV} {b : Fo} {r : List OpV} {i : Nat} (h8 : o.kind = 8) (h9 : e.kind = 9) (hb : b.wf) : scanP (o :: (b.tok ++ e :: r)) 0 i = some (i + 1 + b.tok.length) := by
 have e8 : ¬ e.kind = 8 := by omega
 simp only [scanP, if_pos h8]
 rw [scan_tree b _ (0 + 1) (i + 1) hb (by omega)]
 simp only [scanP, if_neg e8, if_pos h9]
 rw [if_pos (by omega)]
theorem dig_seen {t : List UInt8} (h : t.all isDig = true) : t.all isSeen = true := by
 rw [List.all_eq_true] at *
 intro b hb
 have := h b hb
 simp [isDig] at this
 simp [isSeen]
 omega
theorem itoa_ok {n : Int} (h0 : -9223372036854775808 ≤ n) (h1 : n ≤ 9223372036854775807) : wordOk (itoa n) = true := by
 by_cases hn : n < 0
 ·obtain ⟨m, rfl⟩ : ∃ m : Nat, n = -(m : Int) := ⟨n.natAbs, by omega⟩
  rw [itoa_neg (by omega) (by omega)]
  have := dig_seen (dec_dig m)
  simp only [wordOk, List.all_cons, this]
  rfl
 ·obtain ⟨m, rfl⟩ := Int.eq_ofNat_of_zero_le (by omega : 0 ≤ n)
  rw [itoa_pos (by omega)]
  have := dig_seen (dec_dig m)
  have h2 := dec_ne m
  simp only [wordOk, this]
  cases hd : Lib.decDigits m with
  | nil => exact absurd hd h2
  | cons b l => rfl
theorem waitW_ok {n : Int} (h0 : -1 ≤ n) (h1 : n ≤ 1000) : wordOk (waitW n) = true := by
 unfold waitW
 split
 ·rfl
 ·exact itoa_ok (by omega) (by omega)
theorem waitR_back {w : Wd} (h : (waitR 0 w).2 = 0) : waitW (waitR 0 w).1 = w := by
 unfold waitR at h ⊢
 rw [if_pos rfl] at h ⊢
 by_cases h1 : w = [45]
 ·subst h1; rfl
 ·rw [if_neg h1] at h ⊢
  split at h
  ·simp at h
  ·rename_i h2
   rw [if_neg h2]
   have h3 : ¬ (numP w).1 = -1 := fun e => h2 ⟨h, by omega⟩
   unfold waitW
   rw [if_neg h3, itoa_numP h]
theorem numR_err {e : Int} (he : e ≠ 0) (a : Wd) : numR e a = (0, e) := by unfold numR; rw [if_neg he]
theorem numR_ok {e : Int} {a : Wd} (h : (numR e a).2 = 0) : e = 0 ∧ numR e a = numP a ∧ (numP a).2 = 0 := by
 unfold numR at h ⊢
 by_cases he : e = 0
 ·rw [if_pos he] at h ⊢; exact ⟨he, rfl, h⟩
 ·rw [if_neg he] at h; exact absurd h he
theorem waitR_err {e : Int} (he : e ≠ 0) (a : Wd) : waitR e a = (0, e) := by unfold waitR; rw [if_neg he]
theorem waitR_ok {e : Int} {a : Wd} (h : (waitR e a).2 = 0) : e = 0 := by
 by_cases he : e = 0
 ·exact he
 ·rw [waitR_err he] at h; exact h
theorem clamp_of {n : Int} (h0 : 0 ≤ clamp n) (h1 : clamp n < 8) : clamp n = n := by unfold clamp at *; omega
theorem caseBad_not {c : Case} (h : caseBad c = false) : 0 ≤ c.chan ∧ c.chan < 8 ∧ (c.send = false → c.v = 0) := by
 simp [caseBad] at h
 exact ⟨h.1.1, h.1.2, h.2⟩
theorem runP_send {a b : Wd} {r : List Wd} {acc : List Case} {e : Int} : runP (wSend :: a :: b :: r) acc e = runP r (acc ++ [⟨true, clamp (numR e a).1, (numR (numR e a).2 b).1⟩]) (numR (numR e a).2 b).2 := by
 rw [runP, if_pos rfl]
theorem runP_other {w a : Wd} {r : List Wd} {acc : List Case} {e : Int} (h : w ≠ wSend) : runP (w :: a :: r) acc e = runP r (acc ++ [⟨false, clamp (numR e a).1, 0⟩]) (numR e a).2 := by
 cases r with
 | nil => rw [runP, if_neg h, runP]
 | cons b r => rw [runP, if_neg h]
theorem recv_send : wRecv ≠ wSend := by decide
theorem shaped_recv {a : Wd} {r : List Wd} : shapedP (wRecv :: a :: r) = shapedP r := by
 cases r with
 | nil => rw [shapedP, shapedP]; rfl
 | cons b r => rw [shapedP, if_neg recv_send, if_pos rfl]
theorem shaped_cases {l : List Wd} (h : shapedP l = true) : l = [] ∨ (∃ a b r, l = wSend :: a :: b :: r ∧ shapedP r = true) ∨ (∃ a r, l = wRecv :: a :: r ∧ shapedP r = true) := by
 match l, h with
 | [], _ => exact .inl rfl
 | [w], h => rw [shapedP] at h; cases h
 | [w, a], h =>
   rw [shapedP] at h
   have hw : w = wRecv := by simpa using h
   subst hw
   exact .inr (.inr ⟨a, [], rfl, by rw [shapedP]⟩)
 | w :: a :: b :: r, h =>
   rw [shapedP] at h
   by_cases h1 : w = wSend
   ·rw [if_pos h1] at h
    subst h1
    exact .inr (.inl ⟨a, b, r, rfl, h⟩)
   ·rw [if_neg h1] at h
    by_cases h2 : w = wRecv
    ·rw [if_pos h2] at h
     subst h2
     exact .inr (.inr ⟨a, b :: r, rfl, h⟩)
    ·rw [if_neg h2] at h; cases h
theorem runP_err : ∀ (n : Nat) (l : List Wd) (acc : List Case) (e : Int), l.length ≤ n → e ≠ 0 → (runP l acc e).2 = e
 | _, [], acc, e, _, _ => by rw [runP]
 | _, [w], acc, e, _, _ => by rw [runP]
 | _, [w, a], acc, e, _, he => by
   rw [runP]
   split
   ·rfl
   ·rw [numR_err he]
 | 0, _ :: _ :: _ :: _, _, _, hn, _ => by simp at hn
 | n + 1, w :: a :: b :: r, acc, e, hn, he => by
   simp at hn
   rw [runP]
   split
   ·rw [numR_err he]
    simp only
    rw [numR_err he]
    exact runP_err n r _ e (by omega) he
   ·rw [numR_err he]
    exact runP_err n (b :: r) _ e (by simp; omega) he
theorem run_back : ∀ (n : Nat) (l : List Wd) (acc : List Case), l.length ≤ n → shapedP l = true → (runP l acc 0).2 = 0 →
  ∃ ds, (runP l acc 0).1 = acc ++ ds ∧ ((∀ c ∈ ds, caseBad c = false) → ds.flatMap told = l)
 | n, l, acc, hn, hs, h => by
   rcases shaped_cases hs with rfl | ⟨a, b, r, rfl, hr⟩ | ⟨a, r, rfl, hr⟩
   ·exact ⟨[], by rw [runP, List.append_nil], fun _ => rfl⟩
   ·cases n with
    | zero => simp at hn
    | succ n =>
      rw [runP_send] at h ⊢
      have e2 : (numR (numR 0 a).2 b).2 = 0 := by
       by_cases he : (numR (numR 0 a).2 b).2 = 0
       ·exact he
       ·rw [runP_err _ _ _ _ (Nat.le_refl _) he] at h; exact h
      obtain ⟨e1, f2, g2⟩ := numR_ok e2
      obtain ⟨_, f1, g1⟩ := numR_ok e1
      rw [e2] at h ⊢
      rw [f2, f1] at h ⊢
      obtain ⟨ds, h1, h2⟩ := run_back n r _ (by simp at hn; omega) hr h
      refine ⟨_ :: ds, by rw [h1, List.append_assoc]; rfl, fun hb => ?_⟩
      rw [List.flatMap_cons, h2 fun c hc => hb c (by simp [hc])]
      obtain ⟨c0, c8, _⟩ := caseBad_not (hb _ List.mem_cons_self)
      simp only at c0 c8
      simp only [told, if_true]
      rw [clamp_of c0 c8, itoa_numP g1, itoa_numP g2]
      rfl
   ·cases n with
    | zero => simp at hn
    | succ n =>
      rw [runP_other recv_send] at h ⊢
      have e1 : (numR 0 a).2 = 0 := by
       by_cases he : (numR 0 a).2 = 0
       ·exact he
       ·rw [runP_err _ _ _ _ (Nat.le_refl _) he] at h; exact h
      obtain ⟨_, f1, g1⟩ := numR_ok e1
      rw [e1] at h ⊢
      rw [f1] at h ⊢
      obtain ⟨ds, h1, h2⟩ := run_back n r _ (by simp at hn; omega) hr h
      refine ⟨_ :: ds, by rw [h1, List.append_assoc]; rfl, fun hb => ?_⟩
      rw [List.flatMap_cons, h2 fun c hc => hb c (by simp [hc])]
      obtain ⟨c0, c8, _⟩ := caseBad_not (hb _ List.mem_cons_self)
      simp only at c0 c8
      simp only [told]
      rw [clamp_of c0 c8, itoa_numP g1]
      rfl
def OpV.fine (x : OpV) : Prop := (-9223372036854775808 ≤ x.v ∧ x.v ≤ 9223372036854775807) ∧ ∀ c ∈ x.cases, -9223372036854775808 ≤ c.v ∧ c.v ≤ 9223372036854775807
structure OpOk (x : OpV) : Prop where
 k0 : 1 ≤ x.kind
 k9 : x.kind ≤ 9
 n0 : leastOf x.kind ≤ x.n
 n1 : x.n ≤ mostOf x.kind
 v : x.kind ≠ 4 → x.v = 0
 w : isWait x.kind = false → x.wait = 0
 w0 : -1 ≤ x.wait
 w1 : x.wait ≤ 1000
 c7 : x.kind = 7 → casesP x.cases = 0
 c : x.kind ≠ 7 → x.cases = []
theorem opOk {x : OpV} (h : opCheckP x = 0) : OpOk x := by
 unfold opCheckP at h
 split at h
 ·omega
 ·rename_i h1
  split at h
  ·omega
  ·rename_i h2
   split at h
   ·omega
   ·rename_i h3
    simp only [not_or, not_and, Int.not_lt] at h1 h2 h3
    refine ⟨h1.1, h1.2, h2.1, h2.2.1, fun k => by simpa using h2.2.2 k, fun k => by simpa using h3.1 k, h3.2.1, h3.2.2, fun k => ?_, fun k => ?_⟩
    ·rw [if_pos k] at h; exact h
    ·rw [if_neg k] at h
     split at h
     ·omega
     ·rename_i h4; simpa using h4
theorem mostOf_le (k : Int) : mostOf k ≤ 1000 := by unfold mostOf; repeat' split; all_goals omega
theorem leastOf_ge (k : Int) : 0 ≤ leastOf k := by unfold leastOf; split <;> omega
theorem cases_valid {l : List Case} (h : casesP l = 0) : ∀ c ∈ l, caseBad c = false := by
 unfold casesP at h
 split at h
 ·omega
 ·exact casesGo_valid _ _ h
theorem opWords_ok {x : OpV} (h : opCheckP x = 0) (hf : x.fine) : (opWords x).all wordOk = true := by
 have k := opOk h
 have m := mostOf_le x.kind
 have l := leastOf_ge x.kind
 have hn : wordOk (itoa x.n) = true := itoa_ok (by have := k.n0; omega) (by have := k.n1; omega)
 have hv : wordOk (itoa x.v) = true := itoa_ok hf.1.1 hf.1.2
 have hw : wordOk (waitW x.wait) = true := waitW_ok k.w0 k.w1
 unfold opWords
 rw [List.all_cons, word_ok k.k0 k.k9, Bool.true_and]
 repeat' split
 ·simp [hn, hv, hw]
 ·simp [hn, hw]
 ·rename_i h7
  have hc := cases_valid (k.c7 h7)
  rw [List.all_cons, hw, Bool.true_and, List.all_eq_true]
  intro w hm
  obtain ⟨c, hc1, hc2⟩ := List.mem_flatMap.1 hm
  have hb := caseBad_not (hc c hc1)
  have i1 : wordOk (itoa c.chan) = true := itoa_ok (by omega) (by omega)
  have i2 : wordOk (itoa c.v) = true := itoa_ok (hf.2 c hc1).1 (hf.2 c hc1).2
  unfold told at hc2
  split at hc2
  ·simp at hc2
   rcases hc2 with rfl | rfl | rfl
   ·rfl
   ·exact i1
   ·exact i2
  ·simp at hc2
   rcases hc2 with rfl | rfl
   ·rfl
   ·exact i1
 ·rfl
 ·simp [hn]
theorem at1 {l : List Wd} (h : l.length = 1) : l = [at_ l 0] := by
 match l, h with
 | [a], _ => rfl
theorem at2 {l : List Wd} (h : l.length = 2) : l = [at_ l 0, at_ l 1] := by
 match l, h with
 | [a, b], _ => rfl
theorem at3 {l : List Wd} (h : l.length = 3) : l = [at_ l 0, at_ l 1, at_ l 2] := by
 match l, h with
 | [a, b, c], _ => rfl
theorem text_read {k : Int} {l : List Wd} (h0 : 1 ≤ k) (h9 : k ≤ 9) (hc : countP k l = true) (he : (readP k l).2 = 0) (ho : opCheckP (readP k l).1 = 0) : opWords (readP k l).1 = wordOf k :: l := by
 have ok := opOk ho
 unfold readP at *
 unfold countP at hc
 by_cases h4 : k = 4
 ·subst h4
  simp only [if_true, decide_eq_true_eq] at *
  conv => rhs; rw [at3 hc]
  have e3 := waitR_ok he
  obtain ⟨e2, f2, g2⟩ := numR_ok e3
  obtain ⟨_, f1, g1⟩ := numR_ok e2
  rw [e3] at he ⊢
  have b3 := waitR_back he
  simp only [opWords, if_true]
  rw [b3, f2, f1, itoa_numP g1, itoa_numP g2]
 ·rw [if_neg h4] at *
  by_cases h5 : k = 5
  ·subst h5
   simp only [if_true, decide_eq_true_eq] at *
   conv => rhs; rw [at2 hc]
   have e3 := waitR_ok he
   obtain ⟨_, f1, g1⟩ := numR_ok e3
   rw [e3] at he ⊢
   have b3 := waitR_back he
   simp [opWords]
   rw [b3, f1, itoa_numP g1]
   simp [at_]
  ·rw [if_neg h5] at *
   by_cases h7 : k = 7
   ·subst h7
    simp only [if_true] at *
    cases l with
    | nil => cases hc
    | cons w r =>
      simp only [at_, List.getElem?_cons_zero, Option.getD_some, List.tail_cons] at *
      have e3 : (waitR 0 w).2 = 0 := by
       by_cases hz : (waitR 0 w).2 = 0
       ·exact hz
       ·rw [runP_err _ _ _ _ (Nat.le_refl _) hz] at he; exact he
      rw [e3] at he ho ok ⊢
      obtain ⟨ds, d1, d2⟩ := run_back _ r [] (Nat.le_refl _) hc he
      have d3 := cases_valid (ok.c7 rfl)
      rw [d1, List.nil_append] at *
      have b3 := waitR_back e3
      simp [opWords]
      exact ⟨b3, d2 d3⟩
   ·rw [if_neg h7] at *
    by_cases hk : k = 9
    ·subst hk
     simp only [if_true, decide_eq_true_eq] at *
     rw [List.eq_nil_of_length_eq_zero hc]
     rfl
    ·rw [if_neg hk] at *
     simp only [decide_eq_true_eq] at *
     obtain ⟨_, f1, g1⟩ := numR_ok he
     conv => rhs; rw [at1 hc]
     simp only [opWords, if_neg h4, if_neg h5, if_neg h7, if_neg hk, f1, itoa_numP g1]
theorem readP_kind (k : Int) (l : List Wd) : (readP k l).1.kind = k := by
 unfold readP
 repeat' split
 all_goals simp_all
theorem text_parse {s : Wd} {o : OpV} (h : parseP s = (o, 0)) : opText o = s ∧ opCheckP o = 0 := by
 unfold parseP at h
 cases hw : wordsP s with
 | none => rw [hw] at h; simp at h
 | some l =>
   rw [hw] at h
   cases l with
   | nil => simp at h
   | cons w l =>
     simp only [parseW] at h
     split at h
     ·simp at h
     ·rename_i hk
      simp only [not_or, Int.not_lt, Bool.not_eq_false] at hk
      unfold finP at h
      split at h
      ·rename_i he
       split at h
       ·rename_i ho
        simp only [Prod.mk.injEq, and_true] at h
        subst h
        refine ⟨?_, ho⟩
        have k9 := (kind_le w).2
        have t := text_read hk.1 k9 hk.2 he ho
        unfold opText
        rw [readP_kind, if_neg (by omega), t, word_kind hk.1]
        exact of_words hw
       ·simp only [Prod.mk.injEq] at h
        rename_i ho
        exact absurd h.2 ho
      ·simp only [Prod.mk.injEq] at h
       rename_i he
       exact absurd h.2 he
structure ChanV where
 room : Int
 server : Int
 deriving DecidableEq, Inhabited
structure TaskV where
 name : List UInt8
 per : Int
 dl : Int
 bud : Int
 prog : List OpV
 deriving DecidableEq, Inhabited
structure SetV where
 locks : Int
 chans : List ChanV
 tasks : List TaskV
 deriving DecidableEq, Inhabited
def set0 : SetV := ⟨0, [], []⟩
def knownP (s : SetV) (o : OpV) : Bool :=
 if o.kind = 2 ∨ o.kind = 3 then decide (o.n < s.locks)
 else if o.kind = 4 ∨ o.kind = 5 ∨ o.kind = 6 then decide (o.n < s.chans.length)
 else o.cases.all fun c => decide (c.chan < s.chans.length)
def timesBad (t : TaskV) : Bool := decide (t.per < 1) || (decide (1099511627776 < t.per) || (decide (t.dl < 1) || (decide (t.per < t.dl) || (decide (t.bud < 1) || decide (t.dl < t.bud)))))
def taskP (s : SetV) (i : Nat) (t : TaskV) : Int :=
 if nameP t.name = false then 3
 else if (s.tasks.take i).any (fun u => decide (u.name = t.name)) = true then 6
 else if timesBad t = true then 1
 else if (progP t.prog).2 ≠ 0 then (progP t.prog).2
 else if costP t.prog = 0 then 5
 else if t.prog.all (knownP s) = true then 0 else 3
def tasksGo (s : SetV) : Nat → List TaskV → Int × Int
 | _, [] => (0, 0)
 | i, t :: r => if taskP s i t = 0 then tasksGo s (i + 1) r else ((i : Int), taskP s i t)
def chanBad (s : SetV) (c : ChanV) : Bool := decide (c.room < 0) || (decide (16 < c.room) || (decide (c.server < -1) || decide ((s.tasks.length : Int) ≤ c.server)))
def setP (s : SetV) : Int × Int :=
 if s.locks < 0 ∨ 8 < s.locks then (0, 1)
 else if 8 < s.chans.length ∨ s.tasks.length < 1 ∨ 12 < s.tasks.length then (0, 18)
 else if s.chans.any (chanBad s) = true then (0, 1)
 else tasksGo s 0 s.tasks
theorem tasksGo_ok {s : SetV} : ∀ (l : List TaskV) (i : Nat), (tasksGo s i l).2 = 0 → tasksGo s i l = (0, 0) ∧ ∀ (j : Nat) t, l[j]? = some t → taskP s (i + j) t = 0
 | [], i, h => ⟨rfl, by simp⟩
 | t :: r, i, h => by
   rw [tasksGo] at h ⊢
   by_cases k : taskP s i t = 0
   ·rw [if_pos k] at h ⊢
    obtain ⟨a, b⟩ := tasksGo_ok r (i + 1) h
    refine ⟨a, fun j u hj => ?_⟩
    cases j with
    | zero => simp at hj; subst hj; exact k
    | succ j =>
      have := b j u (by simpa using hj)
      rwa [show i + 1 + j = i + (j + 1) by omega] at this
   ·rw [if_neg k] at h; exact absurd h k
structure SetOk (s : SetV) : Prop where
 l0 : 0 ≤ s.locks
 l1 : s.locks ≤ 8
 c : s.chans.length ≤ 8
 t0 : 1 ≤ s.tasks.length
 t1 : s.tasks.length ≤ 12
 ch : ∀ c ∈ s.chans, 0 ≤ c.room ∧ c.room ≤ 16 ∧ -1 ≤ c.server ∧ c.server < s.tasks.length
 ta : ∀ (i : Nat) t, s.tasks[i]? = some t → taskP s i t = 0
theorem setOk {s : SetV} (h : (setP s).2 = 0) : setP s = (0, 0) ∧ SetOk s := by
 unfold setP at h ⊢
 by_cases h1 : s.locks < 0 ∨ 8 < s.locks
 ·rw [if_pos h1] at h; simp at h
 ·rw [if_neg h1] at h ⊢
  by_cases h2 : 8 < s.chans.length ∨ s.tasks.length < 1 ∨ 12 < s.tasks.length
  ·rw [if_pos h2] at h; simp at h
  ·rw [if_neg h2] at h ⊢
   by_cases h3 : s.chans.any (chanBad s) = true
   ·rw [if_pos h3] at h; simp at h
   ·rw [if_neg h3] at h ⊢
    obtain ⟨a, b⟩ := tasksGo_ok s.tasks 0 h
    refine ⟨a, by omega, by omega, by omega, by omega, by omega, fun c hc => ?_, fun i t ht => by simpa using b i t ht⟩
    have : chanBad s c = false := by
     cases hb : chanBad s c with
     | false => rfl
     | true => exact absurd (List.any_eq_true.2 ⟨c, hc, hb⟩) h3
    simp [chanBad] at this
    omega
structure TaskOk (s : SetV) (t : TaskV) : Prop where
 name : nameP t.name = true
 p0 : 1 ≤ t.per
 p1 : t.per ≤ 1099511627776
 d0 : 1 ≤ t.dl
 d1 : t.dl ≤ t.per
 b0 : 1 ≤ t.bud
 b1 : t.bud ≤ t.dl
 pr : (progP t.prog).2 = 0
 cost : costP t.prog ≠ 0
 kn : ∀ o ∈ t.prog, knownP s o = true
theorem taskOk {s : SetV} {i : Nat} {t : TaskV} (h : taskP s i t = 0) : TaskOk s t ∧ (s.tasks.take i).any (fun u => decide (u.name = t.name)) = false := by
 unfold taskP at h
 by_cases h1 : nameP t.name = false
 ·rw [if_pos h1] at h; omega
 rw [if_neg h1] at h
 by_cases h2 : (s.tasks.take i).any (fun u => decide (u.name = t.name)) = true
 ·rw [if_pos h2] at h; omega
 rw [if_neg h2] at h
 by_cases h3 : timesBad t = true
 ·rw [if_pos h3] at h; omega
 rw [if_neg h3] at h
 by_cases h4 : (progP t.prog).2 ≠ 0
 ·rw [if_pos h4] at h; exact absurd h h4
 rw [if_neg h4] at h
 by_cases h5 : costP t.prog = 0
 ·rw [if_pos h5] at h; omega
 rw [if_neg h5] at h
 by_cases h6 : t.prog.all (knownP s) = true
 ·simp [timesBad] at h3
  exact ⟨⟨by simpa using h1, by omega, by omega, by omega, by omega, by omega, by omega, by omega, h5, fun o ho => List.all_eq_true.1 h6 o ho⟩, by simpa using h2⟩
 ·rw [if_neg h6] at h; omega
theorem progP_ok {p : List OpV} (h : (progP p).2 = 0) : p.length ≤ 48 ∧ ∀ o ∈ p, opCheckP o = 0 := by
 unfold progP at h
 by_cases h1 : 48 < p.length
 ·rw [if_pos h1] at h; simp at h
 rw [if_neg h1] at h
 refine ⟨by omega, ?_⟩
 cases hb : badP p 0 with
 | none => exact badP_none hb
 | some q =>
   obtain ⟨i, e⟩ := q
   rw [hb] at h
   simp only [] at h
   have : ∀ (l : List OpV) (i j : Nat) (e : Int), badP l i = some (j, e) → e ≠ 0 := by
    intro l
    induction l with
    | nil => intro i j e h; simp [badP] at h
    | cons o r ih =>
      intro i j e h
      unfold badP at h
      by_cases hx : opCheckP o = 0
      ·rw [if_pos hx] at h; exact ih _ _ _ h
      ·rw [if_neg hx] at h
       simp at h
       rw [← h.2]; exact hx
   exact absurd h (this _ _ _ _ hb)
def wLocks : Wd := [108, 111, 99, 107, 115]
def wChan : Wd := [99, 104, 97, 110]
def wTask : Wd := [116, 97, 115, 107]
def serveW (n : Int) : Wd := if n < 0 then [45] else itoa n
def chanW (c : ChanV) : Wd := joinC 32 [wChan, itoa c.room, serveW c.server]
def taskW (t : TaskV) : Wd := joinC 32 [wTask, t.name, itoa t.per, itoa t.dl, itoa t.bud]
def taskLines (t : TaskV) : List Wd := taskW t :: t.prog.map opText
def setLines (s : SetV) : List Wd := joinC 32 [wLocks, itoa s.locks] :: (s.chans.map chanW ++ s.tasks.flatMap taskLines)
def printP (s : SetV) : Wd × Int := if (setP s).2 = 0 then (linesOf (setLines s), 0) else ([], (setP s).2)
def small32 (n : Int) : Int × Int := if n < -2147483648 ∨ 2147483647 < n then (0, 14) else (n, 0)
def countW (w : Wd) : Int × Int := if (numP w).2 = 0 then small32 (numP w).1 else (0, (numP w).2)
def servesR (w : Wd) : Int × Int := if w = [45] then (-1, 0) else if (numP w).2 ≠ 0 then (0, (numP w).2) else if (numP w).1 < 0 then (0, 2) else small32 (numP w).1
def locksR (s : SetV) (w : List Wd) : SetV × Int := if w.length ≠ 2 then (s, 2) else ({ s with locks := (countW (at_ w 1)).1 }, (countW (at_ w 1)).2)
def chanR (s : SetV) (w : List Wd) : SetV × Int :=
 if s.chans.length = 8 then (s, 4) else if w.length ≠ 3 then (s, 2) else if (countW (at_ w 1)).2 ≠ 0 then (s, (countW (at_ w 1)).2)
 else ({ s with chans := s.chans ++ [⟨(countW (at_ w 1)).1, (servesR (at_ w 2)).1⟩] }, (servesR (at_ w 2)).2)
def taskR (s : SetV) (w : List Wd) : SetV × Int :=
 if s.tasks.length = 12 then (s, 4) else if w.length ≠ 5 then (s, 2) else if (numP (at_ w 2)).2 ≠ 0 then (s, (numP (at_ w 2)).2) else if (numP (at_ w 3)).2 ≠ 0 then (s, (numP (at_ w 3)).2)
 else if (numP (at_ w 4)).2 ≠ 0 then (s, (numP (at_ w 4)).2)
 else ({ s with tasks := s.tasks ++ [⟨at_ w 1, (numP (at_ w 2)).1, (numP (at_ w 3)).1, (numP (at_ w 4)).1, []⟩] }, 0)
def addOp (o : OpV) : List TaskV → List TaskV
 | [] => []
 | [t] => [{ t with prog := t.prog ++ [o] }]
 | t :: r => t :: addOp o r
def lastLen : List TaskV → Nat
 | [] => 0
 | [t] => t.prog.length
 | _ :: r => lastLen r
def stepR (s : SetV) (line : Wd) : SetV × Int := if lastLen s.tasks = 48 then (s, 4) else ({ s with tasks := addOp (parseP line).1 s.tasks }, (parseP line).2)
def lineSR (s : SetV) (i : Nat) (t : Wd) : SetV × Int := match wordsP t with
 | none => (s, 2)
 | some w =>
   if i = 0 ∧ at_ w 0 = wLocks then locksR s w
   else if 0 < i ∧ at_ w 0 = wChan ∧ s.tasks = [] then chanR s w
   else if 0 < i ∧ at_ w 0 = wTask then taskR s w
   else if s.tasks ≠ [] ∧ kindOf (at_ w 0) ≠ 0 then stepR s t
   else (s, 2)
def setGo : Nat → List Wd → SetV → SetV × Int × Int
 | _, [], s => if (setP s).2 = 0 then (s, 0, 0) else (set0, 0, (setP s).2)
 | i, l :: ls, s => if (lineSR s i l).2 = 0 then setGo (i + 1) ls (lineSR s i l).1 else (set0, (i : Int), (lineSR s i l).2)
def setR (t : Wd) : SetV × Int × Int := match linesP t with
 | none => (set0, 0, 2)
 | some [] => (set0, 0, 2)
 | some (l :: ls) => setGo 0 (l :: ls) set0
theorem small32_ok {n : Int} (h : (small32 n).2 = 0) : small32 n = (n, 0) := by
 unfold small32 at h ⊢
 by_cases k : n < -2147483648 ∨ 2147483647 < n
 ·rw [if_pos k] at h; simp at h
 ·rw [if_neg k]
theorem countW_ok {w : Wd} (h : (countW w).2 = 0) : itoa (countW w).1 = w := by
 unfold countW at h ⊢
 by_cases k : (numP w).2 = 0
 ·rw [if_pos k] at h ⊢
  rw [small32_ok h]
  exact itoa_numP k
 ·rw [if_neg k] at h; exact absurd h k
theorem servesR_ok {w : Wd} (h : (servesR w).2 = 0) : serveW (servesR w).1 = w := by
 unfold servesR at h ⊢
 by_cases k : w = [45]
 ·rw [if_pos k, k]; rfl
 ·rw [if_neg k] at h ⊢
  by_cases k2 : (numP w).2 ≠ 0
  ·rw [if_pos k2] at h; exact absurd h k2
  ·rw [if_neg k2] at h ⊢
   by_cases k3 : (numP w).1 < 0
   ·rw [if_pos k3] at h; simp at h
   ·rw [if_neg k3] at h ⊢
    rw [small32_ok h]
    unfold serveW
    rw [if_neg k3]
    exact itoa_numP (by simpa using k2)
theorem addOp_lines (o : OpV) : ∀ (l : List TaskV), l ≠ [] → (addOp o l).flatMap taskLines = l.flatMap taskLines ++ [opText o]
 | [], h => absurd rfl h
 | [t], _ => by simp [addOp, taskLines, taskW]
 | t :: u :: r, _ => by
   rw [addOp, List.flatMap_cons, addOp_lines o (u :: r) (by simp), List.flatMap_cons (x := t), List.append_assoc]
   intro h; cases h
theorem at5 {l : List Wd} (h : l.length = 5) : l = [at_ l 0, at_ l 1, at_ l 2, at_ l 3, at_ l 4] := by
 match l, h with
 | [a, b, c, d, e], _ => rfl
theorem lineSR_ok {s : SetV} {i : Nat} {t : Wd} (h : (lineSR s i t).2 = 0) : (i = 0 → s = set0 → setLines (lineSR s i t).1 = [t]) ∧ (0 < i → setLines (lineSR s i t).1 = setLines s ++ [t]) := by
 unfold lineSR at h ⊢
 cases hw : wordsP t with
 | none => rw [hw] at h; simp at h
 | some w =>
   rw [hw] at h
   simp only [] at h ⊢
   have hj := of_words hw
   by_cases k1 : i = 0 ∧ at_ w 0 = wLocks
   ·rw [if_pos k1] at h ⊢
    refine ⟨fun _ hs => ?_, fun hi => by omega⟩
    subst hs
    unfold locksR at h ⊢
    by_cases l2 : w.length ≠ 2
    ·rw [if_pos l2] at h; simp at h
    ·rw [if_neg l2] at h ⊢
     have hw2 := at2 (by omega : w.length = 2)
     simp only [setLines, set0, List.map_nil, List.flatMap_nil, List.append_nil]
     rw [countW_ok h, ← k1.2, ← hw2, hj]
   ·rw [if_neg k1] at h ⊢
    by_cases k2 : 0 < i ∧ at_ w 0 = wChan ∧ s.tasks = []
    ·rw [if_pos k2] at h ⊢
     refine ⟨fun hi => by omega, fun _ => ?_⟩
     unfold chanR at h ⊢
     by_cases l8 : s.chans.length = 8
     ·rw [if_pos l8] at h; simp at h
     rw [if_neg l8] at h ⊢
     by_cases l3 : w.length ≠ 3
     ·rw [if_pos l3] at h; simp at h
     rw [if_neg l3] at h ⊢
     by_cases lc : (countW (at_ w 1)).2 ≠ 0
     ·rw [if_pos lc] at h; exact absurd h lc
     rw [if_neg lc] at h ⊢
     have hw3 := at3 (by omega : w.length = 3)
     have e : chanW ⟨(countW (at_ w 1)).1, (servesR (at_ w 2)).1⟩ = t := by
      unfold chanW
      simp only []
      rw [countW_ok (by omega), servesR_ok h, ← k2.2.1, ← hw3, hj]
     simp [setLines, k2.2.2, e]
    ·rw [if_neg k2] at h ⊢
     by_cases k3 : 0 < i ∧ at_ w 0 = wTask
     ·rw [if_pos k3] at h ⊢
      refine ⟨fun hi => by omega, fun _ => ?_⟩
      unfold taskR at h ⊢
      by_cases l12 : s.tasks.length = 12
      ·rw [if_pos l12] at h; simp at h
      rw [if_neg l12] at h ⊢
      by_cases l5 : w.length ≠ 5
      ·rw [if_pos l5] at h; simp at h
      rw [if_neg l5] at h ⊢
      by_cases n2 : (numP (at_ w 2)).2 ≠ 0
      ·rw [if_pos n2] at h; exact absurd h n2
      rw [if_neg n2] at h ⊢
      by_cases n3 : (numP (at_ w 3)).2 ≠ 0
      ·rw [if_pos n3] at h; exact absurd h n3
      rw [if_neg n3] at h ⊢
      by_cases n4 : (numP (at_ w 4)).2 ≠ 0
      ·rw [if_pos n4] at h; exact absurd h n4
      rw [if_neg n4]
      have hw5 := at5 (by omega : w.length = 5)
      have e : taskW ⟨at_ w 1, (numP (at_ w 2)).1, (numP (at_ w 3)).1, (numP (at_ w 4)).1, []⟩ = t := by
       unfold taskW
       simp only []
       rw [itoa_numP (by simpa using n2), itoa_numP (by simpa using n3), itoa_numP (by simpa using n4), ← k3.2, ← hw5, hj]
      simp [setLines, taskLines, e]
     ·rw [if_neg k3] at h ⊢
      by_cases k4 : s.tasks ≠ [] ∧ kindOf (at_ w 0) ≠ 0
      ·rw [if_pos k4] at h ⊢
       unfold stepR at h ⊢
       by_cases l48 : lastLen s.tasks = 48
       ·rw [if_pos l48] at h; simp at h
       rw [if_neg l48] at h ⊢
       have e : opText (parseP t).1 = t := (text_parse (o := (parseP t).1) (Prod.ext rfl h)).1
       refine ⟨fun _ hs => by rw [hs] at k4; exact absurd rfl k4.1, fun _ => ?_⟩
       simp [setLines, addOp_lines _ _ k4.1, e]
      ·rw [if_neg k4] at h; simp at h
theorem setGo_ok : ∀ (ls : List Wd) (i : Nat) (s : SetV), (setGo i ls s).2.2 = 0 → (setP (setGo i ls s).1).2 = 0 ∧ (0 < i → setLines (setGo i ls s).1 = setLines s ++ ls) ∧ (i = 0 → s = set0 → ls ≠ [] → setLines (setGo i ls s).1 = ls)
 | [], i, s, h => by
   rw [setGo] at h ⊢
   by_cases k : (setP s).2 = 0
   ·rw [if_pos k]
    exact ⟨k, fun _ => by simp, fun _ _ h => absurd rfl h⟩
   ·rw [if_neg k] at h; exact absurd h k
 | l :: ls, i, s, h => by
   rw [setGo] at h ⊢
   by_cases k : (lineSR s i l).2 = 0
   ·rw [if_pos k] at h ⊢
    obtain ⟨a, b, _⟩ := setGo_ok ls (i + 1) _ h
    obtain ⟨c, d⟩ := lineSR_ok k
    refine ⟨a, fun hi => ?_, fun hi hs _ => ?_⟩
    ·rw [b (by omega), d hi]; simp
    ·rw [b (by omega), c hi hs]; simp
   ·rw [if_neg k] at h; exact absurd h k
theorem setR_ok {t : Wd} (h : (setR t).2.2 = 0) : printP (setR t).1 = (t, 0) := by
 unfold setR at h ⊢
 cases hl : linesP t with
 | none => rw [hl] at h; simp at h
 | some ls =>
   rw [hl] at h
   cases ls with
   | nil => simp at h
   | cons l ls =>
     simp only [] at h ⊢
     obtain ⟨a, _, c⟩ := setGo_ok (l :: ls) 0 set0 h
     unfold printP
     rw [if_pos a, c rfl rfl (by simp), of_lines hl]
theorem name_ok {w : Wd} (h : nameP w = true) : wordOk w = true := by
 simp only [nameP, Bool.and_eq_true, decide_eq_true_eq] at h
 obtain ⟨⟨h1, h2⟩, h3⟩ := h
 simp only [wordOk, Bool.and_eq_true]
 refine ⟨by cases w with
  | nil => simp at h1
  | cons _ _ => rfl, List.all_eq_true.2 fun b hb => ?_⟩
 have := List.all_eq_true.1 h3 b hb
 simp [isLow] at this
 simp [isSeen]
 omega
theorem serveW_ok {n : Int} (h0 : -1 ≤ n) (h1 : n ≤ 2147483647) : wordOk (serveW n) = true := by
 unfold serveW
 by_cases k : n < 0
 ·rw [if_pos k]; decide
 ·rw [if_neg k]; exact itoa_ok (by omega) (by omega)
def SetV.fine (s : SetV) : Prop := ∀ t ∈ s.tasks, ∀ o ∈ t.prog, o.fine
theorem line_no10 {l : List Wd} (h : l.all wordOk = true) : ∀ b ∈ joinC 32 l, b ≠ 10 := by
 have hw : ∀ w ∈ l, ∀ b ∈ w, b ≠ 10 := fun w hw b hb e => by
  have := List.all_eq_true.1 h w hw
  simp only [wordOk, Bool.and_eq_true] at this
  have := List.all_eq_true.1 this.2 b hb
  rw [e] at this
  simp [isSeen] at this
 clear h
 induction l with
 | nil => simp [joinC]
 | cons w r ih =>
   intro b hb
   cases r with
   | nil => simp [joinC] at hb; exact hw w (by simp) b hb
   | cons u r =>
     rw [joinC_cons (by simp)] at hb
     rcases List.mem_append.1 hb with hb | hb
     ·exact hw w (by simp) b hb
     ·rcases List.mem_cons.1 hb with rfl | hb
      ·decide
      ·exact ih (fun x hx => hw x (by simp [hx])) b hb
theorem taskFine {s : SetV} (k : SetOk s) (f : s.fine) : ∀ t ∈ s.tasks, nameP t.name = true ∧ inI t.per ∧ inI t.dl ∧ inI t.bud ∧ t.prog.length ≤ 48 ∧ ∀ o ∈ t.prog, opCheckP o = 0 ∧ o.fine := by
 intro t ht
 obtain ⟨i, hi⟩ := List.mem_iff_getElem?.1 ht
 have q := (taskOk (k.ta i t hi)).1
 obtain ⟨a, b⟩ := progP_ok q.pr
 have := q.p0; have := q.p1; have := q.d0; have := q.d1; have := q.b0; have := q.b1
 exact ⟨q.name, ⟨by omega, by omega⟩, ⟨by omega, by omega⟩, ⟨by omega, by omega⟩, a, fun o ho => ⟨b o ho, f t ht o ho⟩⟩
theorem setLines_no10 {s : SetV} (k : SetOk s) (f : s.fine) : ∀ w ∈ setLines s, ∀ b ∈ w, b ≠ 10 := by
 intro w hw
 unfold setLines at hw
 rcases List.mem_cons.1 hw with rfl | hw
 ·refine line_no10 ?_
  have := k.l0; have := k.l1
  simp only [List.all_cons, List.all_nil, itoa_ok (n := s.locks) (by omega) (by omega)]
  decide
 ·rcases List.mem_append.1 hw with hw | hw
  ·obtain ⟨c, hc, rfl⟩ := List.mem_map.1 hw
   have := k.ch c hc
   have := k.t1
   refine line_no10 ?_
   simp only [List.all_cons, List.all_nil, itoa_ok (n := c.room) (by omega) (by omega), serveW_ok (n := c.server) (by omega) (by omega)]
   decide
  ·obtain ⟨t, ht, hw⟩ := List.mem_flatMap.1 hw
   obtain ⟨n1, n2, n3, n4, n5, n6⟩ := taskFine k f t ht
   rcases List.mem_cons.1 hw with rfl | hw
   ·refine line_no10 ?_
    simp only [List.all_cons, List.all_nil, itoa_ok n2.1 n2.2, itoa_ok n3.1 n3.2, itoa_ok n4.1 n4.2, name_ok n1]
    decide
   ·obtain ⟨o, ho, rfl⟩ := List.mem_map.1 hw
    have q := n6 o ho
    have hk := opOk q.1
    have h0 : 1 ≤ o.kind := hk.k0
    have h9 : o.kind ≤ 9 := hk.k9
    have e : opText o = joinC 32 (opWords o) := by unfold opText; rw [if_neg (by omega)]
    rw [e]
    exact line_no10 (opWords_ok q.1 q.2)
def depthOk : List OpV → Nat → Prop
 | [], _ => True
 | o :: r, d => if o.kind = 8 then d < 3 ∧ depthOk r (d + 1) else if o.kind = 9 then 0 < d ∧ depthOk r (d - 1) else depthOk r d
theorem order_depth : ∀ (l : List OpV) (s s' : Ord) (i : Nat), orderP l s i = .inr s' → depthOk l s.2.length
 | [], s, s', i, h => trivial
 | o :: r, s, s', i, h => by
   simp only [orderP] at h
   cases ht : takeP s o with
   | none => rw [ht] at h; cases h
   | some t =>
     rw [ht] at h
     have ih := order_depth r t s' (i + 1) h
     unfold takeP at ht
     rw [depthOk]
     by_cases k8 : o.kind = 8
     ·rw [if_pos k8] at ht ⊢
      split at ht
      ·rename_i h3
       simp only [Option.some.injEq] at ht
       subst ht
       exact ⟨h3, by simpa using ih⟩
      ·cases ht
     ·rw [if_neg k8] at ht ⊢
      by_cases k9 : o.kind = 9
      ·rw [if_pos k9] at ht ⊢
       split at ht
       ·cases ht
       ·rename_i q u us hs
        split at ht
        ·simp only [Option.some.injEq] at ht
         subst ht
         rw [hs]
         exact ⟨by simp, by simpa using ih⟩
        ·cases ht
      ·rw [if_neg k9] at ht ⊢
       have hs : t.2 = s.2 := by
        repeat' split at ht
        all_goals first | (cases ht; done) | (simp only [Option.some.injEq] at ht; subst ht; rfl)
       rwa [hs] at ih
def stepsGo : List OpV → List (Int × Int) → Int → Int
 | [], _, st => st
 | o :: r, os, st =>
   if o.kind = 8 then stepsGo r ((o.n, st) :: os) 0
   else if o.kind = 9 then (match os with | [] => stepsGo r [] st | q :: qs => stepsGo r qs (q.2 + q.1 * st))
   else stepsGo r os (st + 1)
theorem steps_tree : ∀ (f : Fo) (r : List OpV) (os : List (Int × Int)) (st : Int), f.wf → stepsGo (f.tok ++ r) os st = stepsGo r os (st + f.sum (fun _ t => t) 1)
 | .nil, r, os, st, _ => by simp [Fo.tok, Fo.sum]
 | .op o f, r, os, st, h => by
   simp only [Fo.tok, List.cons_append, stepsGo, if_neg h.1, if_neg h.2.1, Fo.sum]
   rw [steps_tree f r os _ h.2.2]
   congr 1
   omega
 | .loop o b e f, r, os, st, h => by
   obtain ⟨h8, h9, hb, hf⟩ := h
   have e8 : ¬ e.kind = 8 := by omega
   simp only [Fo.tok, List.cons_append, List.append_assoc, stepsGo, if_pos h8, Fo.sum]
   rw [steps_tree b _ _ _ hb]
   simp only [stepsGo, if_neg e8, if_pos h9]
   rw [steps_tree f r os _ hf, sum_lin (g := fun _ t => t) (fun o t => by simp) b (1 * o.n), Int.one_mul, Int.zero_add]
   congr 1
   omega
theorem steps_eq {l : List OpV} {s' : Ord} {i : Nat} (h : orderP l ([], []) i = .inr s') (h0 : s'.2 = []) : stepsGo l [] 0 = stepsP l := by
 obtain ⟨f, rfl, hf⟩ := tree_of h h0
 have h1 := steps_tree f [] [] 0 hf
 have h2 := each_tree (g := fun _ t => t) f [] 1 [] 0 hf
 rw [List.append_nil] at h1 h2
 unfold stepsP
 rw [h1, h2]
 simp [stepsGo, eachP]
def potS : List (Int × Int) → Int → Int
 | [], st => st
 | q :: qs, st => potS qs (q.2 + 32 * st)
theorem potS_mono : ∀ (os : List (Int × Int)) {a b : Int}, a ≤ b → potS os a ≤ potS os b
 | [], a, b, h => h
 | q :: qs, a, b, h => potS_mono qs (by omega)
theorem potS_ge : ∀ (os : List (Int × Int)) {a : Int}, 0 ≤ a → (∀ q ∈ os, 0 ≤ q.2) → a ≤ potS os a
 | [], a, h, _ => Int.le_refl _
 | q :: qs, a, h, hq => by
   have h1 := hq q (by simp)
   have := potS_ge qs (a := q.2 + 32 * a) (by omega) fun u hu => hq u (by simp [hu])
   simp only [potS]
   omega
theorem potS_inc : ∀ (os : List (Int × Int)) (a : Int), os.length ≤ 3 → potS os (a + 1) ≤ potS os a + 32768
 | [], a, _ => by simp only [potS]; omega
 | [q], a, _ => by simp only [potS]; omega
 | [q, r], a, _ => by simp only [potS]; omega
 | [q, r, t], a, _ => by simp only [potS]; omega
 | _ :: _ :: _ :: _ :: _, a, h => by simp at h
def clamp40 (n : Int) : Int := if n < -1099511627776 ∨ 1099511627776 < n then -1 else n
theorem splitC_no (c : UInt8) : ∀ (s : List UInt8), ∀ w ∈ splitC c s, ∀ b ∈ w, b ≠ c
 | [], w, hw, b, hb => by simp [splitC] at hw; subst hw; simp at hb
 | x :: l, w, hw, b, hb => by
   have ih := splitC_no c l
   unfold splitC at hw
   by_cases hx : (x == c) = true
   ·rw [if_pos hx] at hw
    rcases List.mem_cons.1 hw with rfl | hw
    ·simp at hb
    ·exact ih w hw b hb
   ·rw [if_neg hx] at hw
    cases hs : splitC c l with
    | nil => exact absurd hs (splitC_ne c l)
    | cons v vs =>
      rw [hs] at hw ih
      simp only [] at hw
      rcases List.mem_cons.1 hw with rfl | hw
      ·rcases List.mem_cons.1 hb with rfl | hb
       ·simpa using hx
       ·exact ih v (by simp) b hb
      ·exact ih w (by simp [hw]) b hb
theorem linesP_no {s : List UInt8} {ls : List (List UInt8)} (h : linesP s = some ls) : ∀ w ∈ ls, ∀ b ∈ w, b ≠ 10 := by
 unfold linesP at h
 split at h
 ·cases h; simp
 ·split at h
  ·cases h; exact splitC_no 10 _
  ·cases h
theorem cut10 : ∀ {w l a b : List UInt8}, (∀ x ∈ w, x ≠ 10) → (∀ x ∈ l, x ≠ 10) → w ++ 10 :: a = l ++ 10 :: b → w = l ∧ a = b
 | [], [], a, b, _, _, h => ⟨rfl, by simpa using h⟩
 | [], y :: l, a, b, _, hl, h => by
   simp at h
   exact absurd h.1.symm (hl y (by simp))
 | x :: w, [], a, b, hw, _, h => by
   simp at h
   exact absurd h.1 (hw x (by simp))
 | x :: w, y :: l, a, b, hw, hl, h => by
   simp only [List.cons_append, List.cons.injEq] at h
   obtain ⟨rfl, h⟩ := h
   obtain ⟨rfl, e⟩ := cut10 (fun z hz => hw z (by simp [hz])) (fun z hz => hl z (by simp [hz])) h
   exact ⟨rfl, e⟩
theorem linesOf_cons (w : List UInt8) (l : List (List UInt8)) : linesOf (w :: l) = w ++ 10 :: linesOf l := by simp [linesOf]
theorem linesOf_le : ∀ (ls : List (List UInt8)), ∀ l ∈ ls, l.length ≤ (linesOf ls).length
 | [], l, h => by simp at h
 | w :: r, l, h => by
   rw [linesOf_cons, List.length_append, List.length_cons]
   rcases List.mem_cons.1 h with rfl | h
   ·omega
   ·have := linesOf_le r l h; omega
theorem lines_near : ∀ (L ls : List (List UInt8)) (r : List UInt8), (∀ w ∈ L, ∀ b ∈ w, b ≠ 10) → (∀ w ∈ ls, ∀ b ∈ w, b ≠ 10) → linesOf L ++ r = linesOf ls → ∀ l ∈ ls, l ∈ L ∨ l.length ≤ r.length
 | [], ls, r, _, _, h, l, hl => by
   have : r = linesOf ls := by simpa [linesOf] using h
   rw [this]
   exact .inr (linesOf_le ls l hl)
 | w :: L, ls, r, hL, hls, h, l, hl => by
   cases ls with
   | nil => simp at hl
   | cons v vs =>
     rw [linesOf_cons, linesOf_cons, List.append_assoc, List.cons_append] at h
     obtain ⟨rfl, e⟩ := cut10 (hL w (by simp)) (hls v (by simp)) h
     rcases List.mem_cons.1 hl with rfl | hl
     ·exact .inl (by simp)
     ·rcases lines_near L vs r (fun z hz => hL z (by simp [hz])) (fun z hz => hls z (by simp [hz])) e l hl with q | q
      ·exact .inl (by simp [q])
      ·exact .inr q
theorem lines_pre : ∀ (ls L : List (List UInt8)) (r : List UInt8), (∀ w ∈ L, ∀ b ∈ w, b ≠ 10) → (∀ w ∈ ls, ∀ b ∈ w, b ≠ 10) → linesOf ls ++ r = linesOf L → ∀ l ∈ ls, l ∈ L
 | [], L, r, _, _, h, l, hl => by simp at hl
 | v :: vs, L, r, hL, hls, h, l, hl => by
   cases L with
   | nil => rw [linesOf_cons] at h; simp [linesOf] at h
   | cons w L =>
     rw [linesOf_cons, linesOf_cons, List.append_assoc, List.cons_append] at h
     obtain ⟨rfl, e⟩ := cut10 (hls v (by simp)) (hL w (by simp)) h
     rcases List.mem_cons.1 hl with rfl | hl
     ·simp
     ·have := lines_pre vs L r (fun z hz => hL z (by simp [hz])) (fun z hz => hls z (by simp [hz])) e l hl
      simp [this]
def ends (s : List UInt8) : Nat := s.countP (· == 10)
theorem ends_next {s : List UInt8} {i : Nat} (h : i < s.length) : ends (s.take (i + 1)) = ends (s.take i) + if s[i] = 10 then 1 else 0 := by
 unfold ends
 rw [← List.take_append_getElem h, List.countP_append]
 by_cases k : s[i] = 10 <;> simp [k]
theorem ends_le (s : List UInt8) (i : Nat) : ends (s.take i) ≤ ends s := by
 unfold ends
 exact (List.take_sublist i s).countP_le
theorem ends_len (s : List UInt8) : ends s ≤ s.length := List.countP_le_length
theorem ends_of {l : List (List UInt8)} (h : l ≠ []) : 0 < ends (linesOf l) := by
 cases l with
 | nil => exact absurd rfl h
 | cons w r =>
   unfold ends
   rw [linesOf_cons, List.countP_append, List.countP_cons]
   simp
   omega
end Go.Cl
