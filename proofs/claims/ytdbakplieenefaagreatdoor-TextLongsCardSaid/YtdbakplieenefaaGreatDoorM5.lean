/-
  Texts laid together: POpV PWord PWordS PWordJ PWordN PWordD POp PProg POpL PSet PProgS POpR PTxt PLong.
-/
import Derived.Test.YtdbakplieenefaaGreatDoorM4
namespace Go.Cl
structure Case where
 send : Bool
 chan : Int
 v : Int
 deriving DecidableEq, Inhabited
structure OpV where
 kind : Int
 n : Int
 v : Int
 wait : Int
 cases : List Case
 deriving DecidableEq, Inhabited
def Any : Nat → Prop := fun _ => True
open Go
set_option linter.unusedSimpArgs false
set_option linter.unusedVariables false
def isLow (b : UInt8) : Bool := decide (97 ≤ b.toNat) && decide (b.toNat ≤ 122)
def isDig (b : UInt8) : Bool := decide (48 ≤ b.toNat) && decide (b.toNat ≤ 57)
def isSeen (b : UInt8) : Bool := decide (33 ≤ b.toNat) && decide (b.toNat ≤ 126)
def lows : List UInt8 := [97, 98, 99, 100, 101, 102, 103, 104, 105, 106, 107, 108, 109, 110, 111, 112, 113, 114, 115, 116, 117, 118, 119, 120, 121, 122]
def digits : List UInt8 := [48, 49, 50, 51, 52, 53, 54, 55, 56, 57]
theorem u8_forall {p : UInt8 → Prop} (h : ∀ n : Fin 256, p (UInt8.ofNat n.val)) (b : UInt8) : p b := by
 have := h ⟨b.toNat, b.toNat_lt⟩
 simpa using this
theorem lows_has (b : UInt8) : lows.contains b = isLow b := by
 revert b
 exact u8_forall (by decide +kernel)
theorem digits_has (b : UInt8) : digits.contains b = isDig b := by
 revert b
 exact u8_forall (by decide +kernel)
theorem dropWhile_nil {α : Type} {p : α → Bool} : ∀ {l : List α}, l.dropWhile p = [] ↔ l.all p = true
 | [] => by simp
 | b :: l => by
   by_cases h : p b = true
   ·simp [List.dropWhile, h, dropWhile_nil (l := l)]
   ·have h' : p b = false := by simpa using h
    simp [List.dropWhile, h']
theorem trimS_nil {l cs : List UInt8} : Lib.trimS l cs = [] ↔ l.all (fun b => cs.contains b) = true := by
 have mem : ∀ (b : UInt8), b ∈ (l.reverse.dropWhile (cs.contains ·)) → b ∈ l := fun b hb => by
  have := (List.dropWhile_sublist (l := l.reverse) (cs.contains ·)).subset hb
  simpa using this
 unfold Lib.trimS Lib.trimLeftS Lib.trimRightS
 rw [dropWhile_nil]
 constructor
 ·intro h
  have h2 : ∀ b ∈ l.reverse.dropWhile (cs.contains ·), cs.contains b = true := fun b hb => by
   have := List.all_eq_true.1 h b (by simpa using hb)
   exact this
  have h3 : l.reverse.dropWhile (cs.contains ·) = [] := by
   cases hd : l.reverse.dropWhile (cs.contains ·) with
   | nil => rfl
   | cons x t =>
     have hx := List.head?_dropWhile_not (cs.contains ·) l.reverse
     rw [hd] at hx
     simp at hx
     have := h2 x (by rw [hd]; simp)
     simp at this
     exact absurd this hx
  rw [dropWhile_nil] at h3
  simpa using h3
 ·intro h
  have h3 : l.reverse.dropWhile (cs.contains ·) = [] := by rw [dropWhile_nil]; simpa using h
  rw [h3]; rfl
def nameP (s : List UInt8) : Bool := decide (1 ≤ s.length) && decide (s.length ≤ 8) && s.all isLow
theorem trim_lows {s : List UInt8} : (Lib.trimS s lows == ([] : List UInt8)) = s.all isLow := by
 have h : s.all (fun b => lows.contains b) = s.all isLow := by congr 1; funext b; exact lows_has b
 by_cases hc : s.all isLow = true
 ·rw [hc, beq_iff_eq, trimS_nil, h, hc]
 ·have : ¬ Lib.trimS s lows = [] := fun e => hc (by rw [← h]; exact trimS_nil.1 e)
  have hf : s.all isLow = false := by simpa using hc
  rw [hf]; simpa using this
theorem trim_digits {s : List UInt8} : (Lib.trimS s digits == ([] : List UInt8)) = s.all isDig := by
 have h : s.all (fun b => digits.contains b) = s.all isDig := by congr 1; funext b; exact digits_has b
 by_cases hc : s.all isDig = true
 ·rw [hc, beq_iff_eq, trimS_nil, h, hc]
 ·have : ¬ Lib.trimS s digits = [] := fun e => hc (by rw [← h]; exact trimS_nil.1 e)
  have hf : s.all isDig = false := by simpa using hc
  rw [hf]; simpa using this
theorem isEmpty_lows {s : List UInt8} : (Lib.trimS s lows).isEmpty = s.all isLow := by
 rw [← trim_lows]; cases Lib.trimS s lows <;> rfl
theorem isEmpty_digits {s : List UInt8} : (Lib.trimS s digits).isEmpty = s.all isDig := by
 rw [← trim_digits]; cases Lib.trimS s digits <;> rfl
def linesP (s : List UInt8) : Option (List (List UInt8)) :=
 if s = [] then some [] else if Lib.hasSuffix s [10] then some (splitC 10 (Lib.trimSuffix s [10])) else none
def wordOk (w : List UInt8) : Bool := !w.isEmpty && w.all isSeen
def wordsP (s : List UInt8) : Option (List (List UInt8)) :=
 if s = [] then some [] else if (splitC 32 s).all wordOk then some (splitC 32 s) else none
def errOf (x : Option (List (List UInt8))) : Int := match x with | some _ => 0 | none => 2
def numP (s : List UInt8) : Int × Int :=
 let t := Lib.trimPrefix s [45]
 if (t == [] || !t.all isDig || (decide (1 < t.length) && t[0]? == some 48) || s == [45, 48]) then (0, 2)
 else match Lib.parseIntB 64 s with
  | .ok v => (v, 0)
  | _ => (0, 14)
theorem dec_small {u : Nat} (h : u < 10) : Lib.decDigits u = [UInt8.ofNat (48 + u)] := by rw [Lib.decDigits]; simp [h]
theorem dec_step {u : Nat} (h : ¬ u < 10) : Lib.decDigits u = Lib.decDigits (u / 10) ++ [UInt8.ofNat (48 + u % 10)] := by rw [Lib.decDigits]; simp [h]
theorem digs_len : ∀ (f u : Nat), (digs f u).length ≤ f
 | 0, _ => by simp [digs]
 | f + 1, u => by
   unfold digs
   split
   ·simp
   ·have := digs_len f (u / 10)
    simp; omega
theorem itoa_len (n : Int) : (itoa n).length ≤ 21 := by
 unfold itoa
 split
 ·have := digs_len 20 n.natAbs; simp; omega
 ·have := digs_len 20 n.toNat; omega
theorem itoa_pos {n : Nat} (h : n ≤ 9223372036854775807) : itoa (n : Int) = Lib.decDigits n := by
 rw [itoa_eq (by omega) (by omega)]
 unfold Lib.itoa
 rw [if_neg (by omega)]; simp
theorem itoa_neg {n : Nat} (h0 : 1 ≤ n) (h : n ≤ 9223372036854775808) : itoa (-(n : Int)) = 45 :: Lib.decDigits n := by
 rw [itoa_eq (by omega) (by omega)]
 unfold Lib.itoa
 rw [if_pos (by omega)]; simp
theorem suffix_iff {s : List UInt8} {c : UInt8} : Lib.hasSuffix s [c] = true ↔ ∃ t, s = t ++ [c] := by
 unfold Lib.hasSuffix
 rw [List.isSuffixOf_iff_suffix]
 constructor
 ·rintro ⟨t, h⟩; exact ⟨t, h.symm⟩
 ·rintro ⟨t, h⟩; exact ⟨t, h.symm⟩
theorem trimSuffix_snoc {t : List UInt8} {c : UInt8} : Lib.trimSuffix (t ++ [c]) [c] = t := by
 unfold Lib.trimSuffix
 rw [if_pos (suffix_iff.2 ⟨t, rfl⟩)]
 simp
structure CutAt (c : UInt8) (s : List UInt8) (frm i : Nat) (out : List (List UInt8)) : Prop where
 fi : frm ≤ i
 il : i ≤ s.length
 cut : splitC c s = out ++ splitC c (s.drop frm)
 no : ∀ k, frm ≤ k → k < i → s[k]? ≠ some c
theorem CutAt.zero (c : UInt8) (s : List UInt8) : CutAt c s 0 0 [] := ⟨by omega, by omega, by simp, fun k _ h => by omega⟩
theorem CutAt.done {c : UInt8} {s : List UInt8} {f : Nat} {out : List (List UInt8)} (k : CutAt c s f s.length out) : splitC c s = out ++ [s.drop f] := by
 rw [k.cut, splitC_none]
 intro j
 rw [List.getElem?_drop]
 by_cases h : f + j < s.length
 ·exact k.no _ (by omega) h
 ·rw [List.getElem?_eq_none (by omega)]; simp
theorem words_none {s : List UInt8} {w : List UInt8} (h0 : s ≠ []) (hw : w ∈ splitC 32 s) (hb : wordOk w = false) : wordsP s = none := by
 unfold wordsP
 rw [if_neg h0, if_neg]
 intro hh
 rw [List.all_eq_true.1 hh w hw] at hb
 cases hb
theorem CutAt.last {c : UInt8} {s : List UInt8} {f : Nat} {out : List (List UInt8)} (k : CutAt c s f s.length out) : splitC c s = out ++ [(s.take s.length).drop f] := by
 rw [List.take_length]; exact k.done
def joinC (c : UInt8) : List (List UInt8) → List UInt8
 | [] => []
 | [w] => w
 | w :: x :: ws => w ++ c :: joinC c (x :: ws)
def linesOf (l : List (List UInt8)) : List UInt8 := l.flatMap fun w => w ++ [10]
theorem joinC_cons {c : UInt8} {w : List UInt8} {ws : List (List UInt8)} (h : ws ≠ []) : joinC c (w :: ws) = w ++ c :: joinC c ws := by
 cases ws with
 | nil => exact absurd rfl h
 | cons x ws => rfl
theorem join_split (c : UInt8) : ∀ (s : List UInt8), joinC c (splitC c s) = s
 | [] => rfl
 | b :: s => by
   have ih := join_split c s
   have hne := splitC_ne c s
   simp only [splitC]
   by_cases h : b == c
   ·have hb : b = c := by simpa using h
    rw [if_pos h, joinC_cons hne, ih, hb]; rfl
   ·rw [if_neg h]
    cases hs : splitC c s with
    | nil => exact absurd hs hne
    | cons w ws =>
      rw [hs] at ih
      cases ws with
      | nil => simp only [joinC] at ih ⊢; rw [ih]
      | cons x ws => simp only [joinC] at ih ⊢; rw [← ih]; rfl
theorem splitC_word {c : UInt8} {w r : List UInt8} (h : ∀ b ∈ w, b ≠ c) : splitC c (w ++ c :: r) = w :: splitC c r := by
 have e := splitC_at (c := c) (l := w ++ c :: r) (i := w.length) (by simp) (fun k hk => by
  rw [List.getElem?_append_left hk, List.getElem?_eq_getElem hk]
  intro e
  exact h _ (List.getElem_mem hk) (Option.some.inj e))
 rw [e]
 simp
theorem splitC_only {c : UInt8} {w : List UInt8} (h : ∀ b ∈ w, b ≠ c) : splitC c w = [w] := splitC_none fun k e => by
 obtain ⟨hk, e⟩ := List.getElem?_eq_some_iff.1 e
 exact h _ (List.getElem_mem hk) e
theorem split_join {c : UInt8} : ∀ {l : List (List UInt8)}, l ≠ [] → (∀ w ∈ l, ∀ b ∈ w, b ≠ c) → splitC c (joinC c l) = l
 | [], h, _ => absurd rfl h
 | [w], _, h => by simp only [joinC]; exact splitC_only (h w (by simp))
 | w :: x :: l, _, h => by
   rw [joinC_cons (by simp), splitC_word (h w (by simp)), split_join (l := x :: l) (by simp) fun y hy => h y (by simp at hy ⊢; right; exact hy)]
theorem linesOf_join : ∀ {l : List (List UInt8)}, l ≠ [] → linesOf l = joinC 10 l ++ [10]
 | [], h => absurd rfl h
 | [w], _ => by simp [linesOf, joinC]
 | w :: x :: l, _ => by
   have ih := linesOf_join (l := x :: l) (by simp)
   rw [joinC_cons (by simp), List.append_assoc, List.cons_append, ← ih]
   simp [linesOf]
theorem lines_of {l : List (List UInt8)} (h : ∀ w ∈ l, ∀ b ∈ w, b ≠ 10) : linesP (linesOf l) = some l := by
 by_cases hl : l = []
 ·subst hl; rfl
 ·unfold linesP
  have e := linesOf_join hl
  rw [e, if_neg (by simp), if_pos (suffix_iff.2 ⟨_, rfl⟩), trimSuffix_snoc, split_join hl h]
theorem of_lines {s : List UInt8} {l : List (List UInt8)} (h : linesP s = some l) : linesOf l = s := by
 unfold linesP at h
 split at h
 ·rename_i h0
  cases h; rw [h0]; rfl
 ·split at h
  ·rename_i h1
   cases h
   obtain ⟨t, rfl⟩ := suffix_iff.1 h1
   rw [trimSuffix_snoc, linesOf_join (splitC_ne _ _), join_split]
  ·cases h
theorem words_of {l : List (List UInt8)} (h : l.all wordOk = true) : wordsP (joinC 32 l) = some l := by
 have h32 : ∀ w ∈ l, ∀ b ∈ w, b ≠ 32 := fun w hw b hb e => by
  have := List.all_eq_true.1 h w hw
  simp only [wordOk, Bool.and_eq_true] at this
  have := List.all_eq_true.1 this.2 b hb
  rw [e] at this
  simp [isSeen] at this
 cases l with
 | nil => rfl
 | cons w ws =>
   have hw := List.all_eq_true.1 h w (by simp)
   have hne : joinC 32 (w :: ws) ≠ [] := by
    simp only [wordOk, Bool.and_eq_true] at hw
    cases w with
    | nil => simp at hw
    | cons b w => cases ws <;> simp [joinC]
   unfold wordsP
   rw [if_neg hne, split_join (by simp) h32, if_pos h]
def dval (acc : Nat) (t : List UInt8) : Nat := t.foldl (fun a c => a * 10 + (c.toNat - 48)) acc
theorem dval_nil {acc : Nat} : dval acc [] = acc := rfl
theorem dval_cons {acc : Nat} {c : UInt8} {r : List UInt8} : dval acc (c :: r) = dval (acc * 10 + (c.toNat - 48)) r := by simp only [dval, List.foldl_cons]
theorem dval_ge : ∀ (t : List UInt8) (acc : Nat), acc ≤ dval acc t
 | [], acc => by rw [dval_nil]; exact Nat.le_refl acc
 | c :: r, acc => by
   have := dval_ge r (acc * 10 + (c.toNat - 48))
   rw [dval_cons]
   omega
theorem parseM_nil {M acc : Nat} : Lib.parseUintM M acc [] = .ok acc := by simp [Lib.parseUintM]
theorem parseM_cons {M acc : Nat} {c : UInt8} {r : List UInt8} (hc : 48 ≤ c.toNat ∧ c.toNat ≤ 57) : Lib.parseUintM M acc (c :: r) =
  if 1844674407370955162 ≤ acc then .range else if M < acc * 10 + (c.toNat - 48) then .range else Lib.parseUintM M (acc * 10 + (c.toNat - 48)) r := by
 simp only [Lib.parseUintM, if_pos hc]
theorem parseM (M : Nat) (hM : M = 18446744073709551615) : ∀ (t : List UInt8) (acc v : Nat), t.all isDig = true → acc ≤ M → dval acc t = v →
  Lib.parseUintM M acc t = if v ≤ M then .ok v else .range
 | [], acc, v, _, ha, hv => by
   rw [dval_nil] at hv
   subst hv
   rw [parseM_nil, if_pos ha]
 | c :: r, acc, v, hd, ha, hv => by
   simp only [List.all_cons, Bool.and_eq_true] at hd
   have hc := hd.1
   simp only [isDig, Bool.and_eq_true, decide_eq_true_eq] at hc
   have hge := dval_ge r (acc * 10 + (c.toNat - 48))
   rw [dval_cons] at hv
   rw [parseM_cons hc]
   rw [hv] at hge
   by_cases h1 : 1844674407370955162 ≤ acc
   ·rw [if_pos h1, if_neg (by omega)]
   ·rw [if_neg h1]
    by_cases h2 : M < acc * 10 + (c.toNat - 48)
    ·rw [if_pos h2, if_neg (by omega)]
    ·rw [if_neg h2]
     exact parseM M hM r _ v hd.2 (by omega) hv
def signed (minus : Bool) (t : List UInt8) : List UInt8 := if minus then 45 :: t else t
def numV (minus : Bool) (v : Nat) : Int × Int :=
 if minus then (if v ≤ 9223372036854775808 then (-(v : Int), 0) else (0, 14)) else if v < 9223372036854775808 then ((v : Int), 0) else (0, 14)
theorem trim_signed {minus : Bool} {t : List UInt8} (h : minus = false → t[0]? ≠ some 45) : Lib.trimPrefix (signed minus t) [45] = t := by
 cases minus with
 | true => simp [signed, Lib.trimPrefix, Lib.hasPrefix, List.isPrefixOf]
 | false =>
   have := h rfl
   unfold signed Lib.trimPrefix Lib.hasPrefix
   cases t with
   | nil => rfl
   | cons b t =>
     simp at this
     have hb : ((45 : UInt8) == b) = false := by
      rw [beq_eq_false_iff_ne]; exact fun e => this e.symm
     simp [List.isPrefixOf, hb]
theorem numP_good {minus : Bool} {t : List UInt8} (h0 : t ≠ []) (hd : t.all isDig = true) (hz : ¬ (t[0]? = some 48 ∧ (1 < t.length ∨ minus = true))) : numP (signed minus t) = numV minus (dval 0 t) := by
 obtain ⟨b, r, rfl⟩ : ∃ b r, t = b :: r := by
  cases t with
  | nil => exact absurd rfl h0
  | cons b r => exact ⟨b, r, rfl⟩
 have hb : isDig b = true := by simp only [List.all_cons, Bool.and_eq_true] at hd; exact hd.1
 have hb' := hb
 simp only [isDig, Bool.and_eq_true, decide_eq_true_eq] at hb'
 have hne45 : b ≠ 45 := by rintro rfl; simp at hb'
 unfold numP
 simp only [trim_signed (minus := minus) (t := b :: r) (by simp [hne45])]
 rw [if_neg]
 ·obtain ⟨v, hv⟩ : ∃ v, dval 0 (b :: r) = v := ⟨_, rfl⟩
  obtain ⟨M, hM⟩ : ∃ M, M = 2 ^ 64 - 1 := ⟨_, rfl⟩
  have hM' : M = 18446744073709551615 := hM
  have hp : Lib.parseUintB 64 (b :: r) = if v ≤ M then .ok v else .range := by
   unfold Lib.parseUintB
   rw [if_neg (by simp), ← hM]
   exact parseM M hM' _ _ _ hd (by omega) hv
  rw [hv]
  obtain ⟨C, hC⟩ : ∃ C, C = 2 ^ (64 - 1) := ⟨_, rfl⟩
  have hC' : C = 9223372036854775808 := hC
  cases minus with
  | true =>
    rw [show signed true (b :: r) = 45 :: b :: r by simp [signed], Lib.parseIntB_minus, hp, ← hC]
    by_cases h1 : v ≤ M
    ·rw [if_pos h1]
     simp only [Lib.signedC, numV]
     by_cases h2 : v ≤ 9223372036854775808
     ·have : ¬ C < v := by omega
      simp [h2, this]
     ·have : C < v := by omega
      simp [h2, this]
    ·rw [if_neg h1]
     have : ¬ v ≤ 9223372036854775808 := by omega
     simp [Lib.signedC, numV, this]
  | false =>
    rw [show signed false (b :: r) = b :: r by simp [signed], Lib.parseIntB_plain _ _ _ (by omega) (by omega), hp, ← hC]
    by_cases h1 : v ≤ M
    ·rw [if_pos h1]
     simp only [Lib.signlessC, numV]
     by_cases h2 : v < 9223372036854775808
     ·have : ¬ C ≤ v := by omega
      simp [h2, this]
     ·have : C ≤ v := by omega
      simp [h2, this]
    ·rw [if_neg h1]
     have : ¬ v < 9223372036854775808 := by omega
     simp [Lib.signlessC, numV, this]
 ·intro hh
  simp only [Bool.or_eq_true, Bool.and_eq_true, Bool.not_eq_true', beq_iff_eq, decide_eq_true_eq] at hh
  rcases hh with ((hh | hh) | ⟨h1, h2⟩) | hh
  ·cases hh
  ·rw [hd] at hh; cases hh
  ·exact hz ⟨h2, .inl h1⟩
  ·cases minus with
   | false =>
     simp only [signed] at hh
     simp at hh
     exact hne45 hh.1
   | true =>
     simp only [signed] at hh
     simp at hh
     exact hz ⟨by simp [hh.1], .inr rfl⟩
theorem dval_snoc {a : Nat} {t : List UInt8} {c : UInt8} : dval a (t ++ [c]) = dval a t * 10 + (c.toNat - 48) := by
 simp only [dval, List.foldl_append, List.foldl_cons, List.foldl_nil]
theorem digit_toNat {d : Nat} (h : d < 10) : (UInt8.ofNat (48 + d)).toNat = 48 + d := by
 simp; omega
theorem dec_dig (u : Nat) : (Lib.decDigits u).all isDig = true := by
 induction u using Nat.strongRecOn with
 | _ u ih =>
   by_cases h : u < 10
   ·rw [dec_small h]
    simp only [List.all_cons, List.all_nil, isDig, digit_toNat h]
    simp; omega
   ·rw [dec_step h, List.all_append, ih (u / 10) (by omega)]
    simp only [List.all_cons, List.all_nil, isDig, digit_toNat (show u % 10 < 10 by omega)]
    simp; omega
theorem dec_ne (u : Nat) : Lib.decDigits u ≠ [] := by
 by_cases h : u < 10
 ·rw [dec_small h]; simp
 ·rw [dec_step h]; simp
theorem dval_dec (u : Nat) : dval 0 (Lib.decDigits u) = u := by
 induction u using Nat.strongRecOn with
 | _ u ih =>
   by_cases h : u < 10
   ·rw [dec_small h, dval_cons, dval_nil, digit_toNat h]; omega
   ·rw [dec_step h, dval_snoc, ih (u / 10) (by omega), digit_toNat (show u % 10 < 10 by omega)]; omega
theorem dec_head {u : Nat} (h : 1 ≤ u) : (Lib.decDigits u)[0]? ≠ some 48 := by
 induction u using Nat.strongRecOn with
 | _ u ih =>
   by_cases h10 : u < 10
   ·rw [dec_small h10]
    simp only [List.getElem?_cons_zero]
    intro e
    have := congrArg UInt8.toNat (Option.some.inj e)
    rw [digit_toNat h10] at this
    simp at this; omega
   ·rw [dec_step h10, List.getElem?_append_left (List.length_pos_iff.2 (dec_ne _))]
    exact ih (u / 10) (by omega) (by omega)
theorem numP_itoa {n : Int} (h0 : -9223372036854775808 ≤ n) (h1 : n ≤ 9223372036854775807) : numP (itoa n) = (n, 0) := by
 by_cases hn : n < 0
 ·obtain ⟨u, rfl⟩ : ∃ u : Nat, n = -(u : Int) := ⟨n.natAbs, by omega⟩
  have hh := dec_head (u := u) (by omega)
  rw [itoa_neg (by omega) (by omega), show (45 :: Lib.decDigits u) = signed true (Lib.decDigits u) by simp [signed], numP_good (dec_ne u) (dec_dig u) (fun x => hh x.1), dval_dec]
  have : u ≤ 9223372036854775808 := by omega
  simp [numV, this]
 ·obtain ⟨u, rfl⟩ : ∃ u : Nat, n = u := ⟨n.toNat, by omega⟩
  rw [itoa_pos (by omega), show Lib.decDigits u = signed false (Lib.decDigits u) by simp [signed], numP_good (dec_ne u) (dec_dig u) ?_, dval_dec]
  ·have : u < 9223372036854775808 := by omega
   simp [numV, this]
  ·rintro ⟨x, y | y⟩
   ·by_cases h0 : u = 0
    ·subst h0
     rw [dec_small (by omega)] at y; simp at y
    ·exact dec_head (u := u) (by omega) x
   ·cases y
theorem numP_in (s : List UInt8) : -9223372036854775808 ≤ (numP s).1 ∧ (numP s).1 ≤ 9223372036854775807 := by
 cases hp : Lib.parseIntB 64 s with
 | ok v =>
   have hb := Lib.parseIntB_bounds hp
   simp at hb
   simp only [numP, hp]
   split
   ·decide
   ·exact ⟨hb.1, by show v ≤ _; omega⟩
 | range => simp only [numP, hp]; split <;> decide
 | _ => simp only [numP, hp]; split <;> decide
abbrev Wd := List UInt8
abbrev wRun : Wd := [114, 117, 110]
abbrev wLock : Wd := [108, 111, 99, 107]
abbrev wUnlock : Wd := [117, 110, 108, 111, 99, 107]
abbrev wSend : Wd := [115, 101, 110, 100]
abbrev wRecv : Wd := [114, 101, 99, 118]
abbrev wClose : Wd := [99, 108, 111, 115, 101]
abbrev wSelect : Wd := [115, 101, 108, 101, 99, 116]
abbrev wLoop : Wd := [108, 111, 111, 112]
abbrev wEnd : Wd := [101, 110, 100]
def isWait (k : Int) : Bool := decide (k = 4) || decide (k = 5) || decide (k = 7)
def waitsP (x : OpV) : Bool := isWait x.kind && !decide (x.wait = 0)
def leastOf (k : Int) : Int := if k = 1 ∨ k = 8 then 1 else 0
def mostOf (k : Int) : Int := if k = 1 then 1000 else if 2 ≤ k ∧ k ≤ 6 then 7 else if k = 8 then 32 else 0
def wordOf (k : Int) : Wd := if k = 1 then wRun else if k = 2 then wLock else if k = 3 then wUnlock else if k = 4 then wSend else if k = 5 then wRecv else if k = 6 then wClose else if k = 7 then wSelect else if k = 8 then wLoop else if k = 9 then wEnd else []
def kindOf (w : Wd) : Int := if w = wRun then 1 else if w = wLock then 2 else if w = wUnlock then 3 else if w = wSend then 4 else if w = wRecv then 5 else if w = wClose then 6 else if w = wSelect then 7 else if w = wLoop then 8 else if w = wEnd then 9 else 0
theorem kinds9 {k : Int} (h0 : 1 ≤ k) (h1 : k ≤ 9) : k = 1 ∨ k = 2 ∨ k = 3 ∨ k = 4 ∨ k = 5 ∨ k = 6 ∨ k = 7 ∨ k = 8 ∨ k = 9 := by omega
theorem kind_word {k : Int} (h0 : 1 ≤ k) (h1 : k ≤ 9) : kindOf (wordOf k) = k := by
 rcases kinds9 h0 h1 with rfl | rfl | rfl | rfl | rfl | rfl | rfl | rfl | rfl <;> rfl
theorem word_ok {k : Int} (h0 : 1 ≤ k) (h1 : k ≤ 9) : wordOk (wordOf k) = true := by
 rcases kinds9 h0 h1 with rfl | rfl | rfl | rfl | rfl | rfl | rfl | rfl | rfl <;> rfl
theorem kind_le (w : Wd) : 0 ≤ kindOf w ∧ kindOf w ≤ 9 := by
 unfold kindOf
 repeat' split
 all_goals omega
theorem word_kind {w : Wd} (h : 1 ≤ kindOf w) : wordOf (kindOf w) = w := by
 unfold kindOf at h ⊢
 by_cases h1 : w = wRun
 ·subst h1; rfl
 by_cases h2 : w = wLock
 ·subst h2; rfl
 by_cases h3 : w = wUnlock
 ·subst h3; rfl
 by_cases h4 : w = wSend
 ·subst h4; rfl
 by_cases h5 : w = wRecv
 ·subst h5; rfl
 by_cases h6 : w = wClose
 ·subst h6; rfl
 by_cases h7 : w = wSelect
 ·subst h7; rfl
 by_cases h8 : w = wLoop
 ·subst h8; rfl
 by_cases h9 : w = wEnd
 ·subst h9; rfl
 ·rw [if_neg h1, if_neg h2, if_neg h3, if_neg h4, if_neg h5, if_neg h6, if_neg h7, if_neg h8, if_neg h9] at h
  omega
def caseBad (c : Case) : Bool := decide (c.chan < 0) || decide (8 ≤ c.chan) || (!c.send && !decide (c.v = 0))
def casesGo : List Case → List Case → Int
 | _, [] => 0
 | pre, c :: r => if caseBad c then 1 else if pre.any (fun x => decide (x.chan = c.chan)) then 6 else casesGo (pre ++ [c]) r
def casesP (l : List Case) : Int := if l.length < 1 ∨ 4 < l.length then 18 else casesGo [] l
def opCheckP (x : OpV) : Int :=
 if x.kind < 1 ∨ 9 < x.kind then 3
 else if x.n < leastOf x.kind ∨ mostOf x.kind < x.n ∨ (x.kind ≠ 4 ∧ x.v ≠ 0) then 1
 else if (isWait x.kind = false ∧ x.wait ≠ 0) ∨ x.wait < -1 ∨ 1000 < x.wait then 1
 else if x.kind = 7 then casesP x.cases
 else if x.cases ≠ [] then 1 else 0
theorem casesGo_valid : ∀ (l pre : List Case), casesGo pre l = 0 → ∀ c ∈ l, caseBad c = false
 | [], _, _, c, hc => by simp at hc
 | d :: r, pre, h, c, hc => by
   unfold casesGo at h
   by_cases hb : caseBad d = true
   ·rw [if_pos hb] at h; omega
   ·rw [if_neg hb] at h
    split at h
    ·omega
    ·rcases List.mem_cons.1 hc with rfl | hc
     ·simpa using hb
     ·exact casesGo_valid r _ h c hc
def waitW (n : Int) : Wd := if n = -1 then [45] else itoa n
def told (c : Case) : List Wd := if c.send then [wSend, itoa c.chan, itoa c.v] else [wRecv, itoa c.chan]
def opWords (x : OpV) : List Wd := wordOf x.kind ::
 (if x.kind = 4 then [itoa x.n, itoa x.v, waitW x.wait] else if x.kind = 5 then [itoa x.n, waitW x.wait] else if x.kind = 7 then waitW x.wait :: x.cases.flatMap told else if x.kind = 9 then [] else [itoa x.n])
def opText (x : OpV) : Wd := if x.kind < 1 ∨ 9 < x.kind then [] else joinC 32 (opWords x)
def op0 : OpV := ⟨0, 0, 0, 0, []⟩
def clamp (n : Int) : Int := max (min n 8) (-1)
def numR (e : Int) (a : Wd) : Int × Int := if e = 0 then numP a else (0, e)
def waitR (e : Int) (a : Wd) : Int × Int := if e = 0 then (if a = [45] then (-1, 0) else if (numP a).2 = 0 ∧ (numP a).1 < 0 then ((numP a).1, 2) else numP a) else (0, e)
def runP : List Wd → List Case → Int → List Case × Int
 | w :: a :: b :: r, acc, e =>
   if w = wSend then runP r (acc ++ [⟨true, clamp (numR e a).1, (numR (numR e a).2 b).1⟩]) (numR (numR e a).2 b).2
   else runP (b :: r) (acc ++ [⟨false, clamp (numR e a).1, 0⟩]) (numR e a).2
 | [w, a], acc, e => if w = wSend then (acc, e) else (acc ++ [⟨false, clamp (numR e a).1, 0⟩], (numR e a).2)
 | [_], acc, e => (acc, e)
 | [], acc, e => (acc, e)
def shapedP : List Wd → Bool
 | w :: a :: b :: r => if w = wSend then shapedP r else if w = wRecv then shapedP (b :: r) else false
 | [w, _] => decide (w = wRecv)
 | [_] => false
 | [] => true
def countP (k : Int) (l : List Wd) : Bool :=
 if k = 4 then decide (l.length = 3) else if k = 5 then decide (l.length = 2) else if k = 7 then (match l with | [] => false | _ :: r => shapedP r) else if k = 9 then decide (l.length = 0) else decide (l.length = 1)
def at_ (l : List Wd) (i : Nat) : Wd := (l[i]?).getD []
def readP (k : Int) (l : List Wd) : OpV × Int :=
 if k = 4 then
  let x := numR 0 (at_ l 0)
  let y := numR x.2 (at_ l 1)
  let z := waitR y.2 (at_ l 2)
  (⟨4, x.1, y.1, z.1, []⟩, z.2)
 else if k = 5 then
  let x := numR 0 (at_ l 0)
  let z := waitR x.2 (at_ l 1)
  (⟨5, x.1, 0, z.1, []⟩, z.2)
 else if k = 7 then
  let z := waitR 0 (at_ l 0)
  let q := runP l.tail [] z.2
  (⟨7, 0, 0, z.1, q.1⟩, q.2)
 else if k = 9 then (⟨9, 0, 0, 0, []⟩, 0)
 else
  let x := numR 0 (at_ l 0)
  (⟨k, x.1, 0, 0, []⟩, x.2)
def finP (q : OpV × Int) : OpV × Int := if q.2 = 0 then (if opCheckP q.1 = 0 then (q.1, 0) else (op0, opCheckP q.1)) else (op0, q.2)
def parseW (w : Wd) (l : List Wd) : OpV × Int := if kindOf w < 1 ∨ countP (kindOf w) l = false then (op0, 2) else finP (readP (kindOf w) l)
def parseP (s : Wd) : OpV × Int :=
 match wordsP s with
 | none => (op0, 2)
 | some [] => (op0, 2)
 | some (w :: l) => parseW w l
abbrev Ord := List Int × List (List Int)
def takeP (s : Ord) (o : OpV) : Option Ord :=
 if o.kind = 8 then (if s.2.length < 3 then some (s.1, s.1 :: s.2) else none)
 else if o.kind = 9 then (match s.2 with | [] => none | f :: r => if f = s.1 then some (s.1, r) else none)
 else if o.kind = 2 then (match s.1 with | [] => some ([o.n], s.2) | x :: t => if o.n ≤ x then none else some (o.n :: x :: t, s.2))
 else if o.kind = 3 then (match s.1 with | [] => none | x :: t => if x = o.n then some (t, s.2) else none)
 else if waitsP o = true ∧ s.1 ≠ [] then none else some s
def orderP : List OpV → Ord → Nat → Nat ⊕ Ord
 | [], s, _ => .inr s
 | o :: r, s, i => match takeP s o with
   | none => .inl i
   | some s' => orderP r s' (i + 1)
def badP : List OpV → Nat → Option (Nat × Int)
 | [], _ => none
 | o :: r, i => if opCheckP o = 0 then badP r (i + 1) else some (i, opCheckP o)
theorem badP_none : ∀ {l : List OpV} {i : Nat}, badP l i = none → ∀ o ∈ l, opCheckP o = 0
 | [], _, _, o, h => by simp at h
 | x :: r, i, h, o, ho => by
   unfold badP at h
   by_cases hx : opCheckP x = 0
   ·rw [if_pos hx] at h
    rcases List.mem_cons.1 ho with rfl | ho
    ·exact hx
    ·exact badP_none h o ho
   ·rw [if_neg hx] at h; cases h
def eachP (g : OpV → Int → Int) : List OpV → Int → List Int → Int → Int
 | [], _, _, acc => acc
 | o :: r, t, ts, acc =>
   if o.kind = 8 then eachP g r (t * o.n) (t :: ts) acc
   else if o.kind = 9 then (match ts with | [] => eachP g r t [] acc | u :: us => eachP g r u us acc)
   else eachP g r t ts (acc + g o t)
def stepsP (p : List OpV) : Int := eachP (fun _ t => t) p 1 [] 0
def gCost (o : OpV) (t : Int) : Int := if o.kind = 1 then o.n * t else 0
def costP (p : List OpV) : Int := eachP gCost p 1 [] 0
def progP (p : List OpV) : Int × Int :=
 if 48 < p.length then (0, 18)
 else match badP p 0 with
  | some (i, e) => (i, e)
  | none => match orderP p ([], []) 0 with
    | .inl i => (i, 11)
    | .inr s => if s.2 ≠ [] ∨ s.1 ≠ [] then ((p.length : Int) - 1, 11) else if 512 < stepsP p then (0, 4) else (0, 0)
inductive Fo where
 | nil
 | op (o : OpV) (r : Fo)
 | loop (o : OpV) (b : Fo) (e : OpV) (r : Fo)
def Fo.wf : Fo → Prop
 | .nil => True
 | .op o r => o.kind ≠ 8 ∧ o.kind ≠ 9 ∧ r.wf
 | .loop o b e r => o.kind = 8 ∧ e.kind = 9 ∧ b.wf ∧ r.wf
def Fo.flat : Fo → List OpV
 | .nil => []
 | .op o r => o :: r.flat
 | .loop o b _ r => (List.replicate o.n.toNat b.flat).flatten ++ r.flat
def Fo.app : Fo → Fo → Fo
 | .nil, f => f
 | .op o r, f => .op o (r.app f)
 | .loop o b e r, f => .loop o b e (r.app f)
theorem dig_seen {t : List UInt8} (h : t.all isDig = true) : t.all isSeen = true := by
 rw [List.all_eq_true] at *
 intro b hb
 have := h b hb
 simp [isDig] at this
 simp [isSeen]
 omega
theorem itoa_ok {n : Int} (h0 : -9223372036854775808 ≤ n) (h1 : n ≤ 9223372036854775807) : wordOk (itoa n) = true := by
 by_cases hn : n < 0
 ·obtain ⟨m, rfl⟩ : ∃ m : Nat, n = -(m : Int) := ⟨n.natAbs, by omega⟩
  rw [itoa_neg (by omega) (by omega)]
  have := dig_seen (dec_dig m)
  simp only [wordOk, List.all_cons, this]
  rfl
 ·obtain ⟨m, rfl⟩ := Int.eq_ofNat_of_zero_le (by omega : 0 ≤ n)
  rw [itoa_pos (by omega)]
  have := dig_seen (dec_dig m)
  have h2 := dec_ne m
  simp only [wordOk, this]
  cases hd : Lib.decDigits m with
  | nil => exact absurd hd h2
  | cons b l => rfl
theorem itoa_dash {n : Int} (h0 : -9223372036854775808 ≤ n) (h1 : n ≤ 9223372036854775807) : itoa n ≠ [45] := fun e => by
 have h2 := numP_itoa h0 h1
 rw [e] at h2
 have h3 : numP [45] = (0, 2) := by decide
 rw [h3] at h2
 simp at h2
theorem waitW_ok {n : Int} (h0 : -1 ≤ n) (h1 : n ≤ 1000) : wordOk (waitW n) = true := by
 unfold waitW
 split
 ·rfl
 ·exact itoa_ok (by omega) (by omega)
theorem waitR_W {n : Int} (h0 : -1 ≤ n) (h1 : n ≤ 1000) : waitR 0 (waitW n) = (n, 0) := by
 unfold waitR waitW
 by_cases hn : n = -1
 ·subst hn; rfl
 ·have h2 : itoa n ≠ [45] := itoa_dash (by omega) (by omega)
  have h3 := numP_itoa (n := n) (by omega) (by omega)
  simp only [if_neg hn, if_true, if_neg h2, h3]
  rw [if_neg (by omega)]
theorem numR_itoa {n : Int} (h0 : -9223372036854775808 ≤ n) (h1 : n ≤ 9223372036854775807) : numR 0 (itoa n) = (n, 0) := by
 unfold numR
 rw [if_pos rfl, numP_itoa h0 h1]
theorem numR_err {e : Int} (he : e ≠ 0) (a : Wd) : numR e a = (0, e) := by unfold numR; rw [if_neg he]
theorem waitR_err {e : Int} (he : e ≠ 0) (a : Wd) : waitR e a = (0, e) := by unfold waitR; rw [if_neg he]
theorem clamp_id {n : Int} (h0 : 0 ≤ n) (h1 : n < 8) : clamp n = n := by unfold clamp; omega
theorem caseBad_not {c : Case} (h : caseBad c = false) : 0 ≤ c.chan ∧ c.chan < 8 ∧ (c.send = false → c.v = 0) := by
 simp [caseBad] at h
 exact ⟨h.1.1, h.1.2, h.2⟩
theorem runP_send {a b : Wd} {r : List Wd} {acc : List Case} {e : Int} : runP (wSend :: a :: b :: r) acc e = runP r (acc ++ [⟨true, clamp (numR e a).1, (numR (numR e a).2 b).1⟩]) (numR (numR e a).2 b).2 := by
 rw [runP, if_pos rfl]
theorem runP_other {w a : Wd} {r : List Wd} {acc : List Case} {e : Int} (h : w ≠ wSend) : runP (w :: a :: r) acc e = runP r (acc ++ [⟨false, clamp (numR e a).1, 0⟩]) (numR e a).2 := by
 cases r with
 | nil => rw [runP, if_neg h, runP]
 | cons b r => rw [runP, if_neg h]
theorem recv_send : wRecv ≠ wSend := by decide
theorem shaped_send {a b : Wd} {r : List Wd} : shapedP (wSend :: a :: b :: r) = shapedP r := by rw [shapedP, if_pos rfl]
theorem shaped_recv {a : Wd} {r : List Wd} : shapedP (wRecv :: a :: r) = shapedP r := by
 cases r with
 | nil => rw [shapedP, shapedP]; rfl
 | cons b r => rw [shapedP, if_neg recv_send, if_pos rfl]
theorem shaped_cases {l : List Wd} (h : shapedP l = true) : l = [] ∨ (∃ a b r, l = wSend :: a :: b :: r ∧ shapedP r = true) ∨ (∃ a r, l = wRecv :: a :: r ∧ shapedP r = true) := by
 match l, h with
 | [], _ => exact .inl rfl
 | [w], h => rw [shapedP] at h; cases h
 | [w, a], h =>
   rw [shapedP] at h
   have hw : w = wRecv := by simpa using h
   subst hw
   exact .inr (.inr ⟨a, [], rfl, by rw [shapedP]⟩)
 | w :: a :: b :: r, h =>
   rw [shapedP] at h
   by_cases h1 : w = wSend
   ·rw [if_pos h1] at h
    subst h1
    exact .inr (.inl ⟨a, b, r, rfl, h⟩)
   ·rw [if_neg h1] at h
    by_cases h2 : w = wRecv
    ·rw [if_pos h2] at h
     subst h2
     exact .inr (.inr ⟨a, b :: r, rfl, h⟩)
    ·rw [if_neg h2] at h; cases h
theorem shaped_told : ∀ (cs : List Case), shapedP (cs.flatMap told) = true
 | [] => by rw [List.flatMap_nil, shapedP]
 | c :: cs => by
   have ih := shaped_told cs
   rw [List.flatMap_cons]
   unfold told
   cases hs : c.send with
   | true => exact shaped_send.trans ih
   | false => exact shaped_recv.trans ih
theorem run_told : ∀ (cs acc : List Case), (∀ c ∈ cs, caseBad c = false ∧ -9223372036854775808 ≤ c.v ∧ c.v ≤ 9223372036854775807) → runP (cs.flatMap told) acc 0 = (acc ++ cs, 0)
 | [], acc, _ => by rw [List.flatMap_nil, runP, List.append_nil]
 | c :: cs, acc, h => by
   obtain ⟨h1, h2, h3⟩ := h c (by simp)
   obtain ⟨c0, c8, cv⟩ := caseBad_not h1
   have ih := run_told cs (acc ++ [c]) fun d hd => h d (by simp [hd])
   have e1 := numR_itoa (n := c.chan) (by omega) (by omega)
   have e2 := numR_itoa h2 h3
   obtain ⟨send, chan, v⟩ := c
   simp only at *
   rw [List.flatMap_cons]
   cases send with
   | true =>
     rw [show told ⟨true, chan, v⟩ = [wSend, itoa chan, itoa v] from rfl]
     refine runP_send.trans ?_
     rw [e1]
     simp only
     rw [e2]
     simp only
     rw [clamp_id c0 c8]
     refine ih.trans ?_
     rw [List.append_assoc]
     rfl
   | false =>
     rw [show told ⟨false, chan, v⟩ = [wRecv, itoa chan] from rfl]
     refine (runP_other recv_send).trans ?_
     rw [e1]
     simp only
     rw [clamp_id c0 c8]
     have hv := cv rfl
     subst hv
     refine ih.trans ?_
     rw [List.append_assoc]
     rfl
def OpV.fine (x : OpV) : Prop := (-9223372036854775808 ≤ x.v ∧ x.v ≤ 9223372036854775807) ∧ ∀ c ∈ x.cases, -9223372036854775808 ≤ c.v ∧ c.v ≤ 9223372036854775807
structure OpOk (x : OpV) : Prop where
 k0 : 1 ≤ x.kind
 k9 : x.kind ≤ 9
 n0 : leastOf x.kind ≤ x.n
 n1 : x.n ≤ mostOf x.kind
 v : x.kind ≠ 4 → x.v = 0
 w : isWait x.kind = false → x.wait = 0
 w0 : -1 ≤ x.wait
 w1 : x.wait ≤ 1000
 c7 : x.kind = 7 → casesP x.cases = 0
 c : x.kind ≠ 7 → x.cases = []
theorem opOk {x : OpV} (h : opCheckP x = 0) : OpOk x := by
 unfold opCheckP at h
 split at h
 ·omega
 ·rename_i h1
  split at h
  ·omega
  ·rename_i h2
   split at h
   ·omega
   ·rename_i h3
    simp only [not_or, not_and, Int.not_lt] at h1 h2 h3
    refine ⟨h1.1, h1.2, h2.1, h2.2.1, fun k => by simpa using h2.2.2 k, fun k => by simpa using h3.1 k, h3.2.1, h3.2.2, fun k => ?_, fun k => ?_⟩
    ·rw [if_pos k] at h; exact h
    ·rw [if_neg k] at h
     split at h
     ·omega
     ·rename_i h4; simpa using h4
theorem mostOf_le (k : Int) : mostOf k ≤ 1000 := by unfold mostOf; repeat' split; all_goals omega
theorem leastOf_ge (k : Int) : 0 ≤ leastOf k := by unfold leastOf; split <;> omega
theorem cases_valid {l : List Case} (h : casesP l = 0) : ∀ c ∈ l, caseBad c = false := by
 unfold casesP at h
 split at h
 ·omega
 ·exact casesGo_valid _ _ h
theorem opWords_ok {x : OpV} (h : opCheckP x = 0) (hf : x.fine) : (opWords x).all wordOk = true := by
 have k := opOk h
 have m := mostOf_le x.kind
 have l := leastOf_ge x.kind
 have hn : wordOk (itoa x.n) = true := itoa_ok (by have := k.n0; omega) (by have := k.n1; omega)
 have hv : wordOk (itoa x.v) = true := itoa_ok hf.1.1 hf.1.2
 have hw : wordOk (waitW x.wait) = true := waitW_ok k.w0 k.w1
 unfold opWords
 rw [List.all_cons, word_ok k.k0 k.k9, Bool.true_and]
 repeat' split
 ·simp [hn, hv, hw]
 ·simp [hn, hw]
 ·rename_i h7
  have hc := cases_valid (k.c7 h7)
  rw [List.all_cons, hw, Bool.true_and, List.all_eq_true]
  intro w hm
  obtain ⟨c, hc1, hc2⟩ := List.mem_flatMap.1 hm
  have hb := caseBad_not (hc c hc1)
  have i1 : wordOk (itoa c.chan) = true := itoa_ok (by omega) (by omega)
  have i2 : wordOk (itoa c.v) = true := itoa_ok (hf.2 c hc1).1 (hf.2 c hc1).2
  unfold told at hc2
  split at hc2
  ·simp at hc2
   rcases hc2 with rfl | rfl | rfl
   ·rfl
   ·exact i1
   ·exact i2
  ·simp at hc2
   rcases hc2 with rfl | rfl
   ·rfl
   ·exact i1
 ·rfl
 ·simp [hn]
theorem parse_text {x : OpV} (h : opCheckP x = 0) (hf : x.fine) : parseP (opText x) = (x, 0) := by
 have k := opOk h
 have m := mostOf_le x.kind
 have l := leastOf_ge x.kind
 have hn : numR 0 (itoa x.n) = (x.n, 0) := numR_itoa (by have := k.n0; omega) (by have := k.n1; omega)
 have hv : numR 0 (itoa x.v) = (x.v, 0) := numR_itoa hf.1.1 hf.1.2
 have hw : waitR 0 (waitW x.wait) = (x.wait, 0) := waitR_W k.w0 k.w1
 have kk := kind_word k.k0 k.k9
 have e1 : opText x = joinC 32 (opWords x) := by
  unfold opText
  rw [if_neg (by have := k.k0; have := k.k9; omega)]
 unfold parseP
 rw [e1, words_of (opWords_ok h hf)]
 show parseW _ _ = _
 have fin : ∀ q : OpV × Int, q = (x, 0) → finP q = (x, 0) := fun q hq => by
  subst hq
  unfold finP
  rw [if_pos rfl, if_pos h]
 unfold parseW
 rw [kk]
 have n1 : ¬ x.kind < 1 := by have := k.k0; omega
 obtain ⟨kind, n, v, wait, cases⟩ := x
 simp only at *
 by_cases h4 : kind = 4
 ·subst h4
  have := k.w
  have hc : cases = [] := k.c (by simp)
  subst hc
  rw [if_neg (by simp [countP])]
  refine fin _ ?_
  simp [readP, at_, hn, hv, hw]
 ·by_cases h5 : kind = 5
  ·subst h5
   have hc : cases = [] := k.c (by simp)
   have h0 : v = 0 := k.v (by simp)
   subst hc h0
   rw [if_neg (by simp [countP])]
   refine fin _ ?_
   simp [readP, at_, hn, hw]
  ·by_cases h7 : kind = 7
   ·subst h7
    have h0 : v = 0 := k.v (by simp)
    have h0' : n = 0 := by
     have a := k.n0
     have b := k.n1
     simp [leastOf, mostOf] at a b
     omega
    subst h0 h0'
    have hs := shaped_told cases
    have hr := run_told cases [] fun c hc => ⟨cases_valid (k.c7 rfl) c hc, hf.2 c hc⟩
    rw [if_neg (by simp [countP, hs])]
    refine fin _ ?_
    simp [readP, at_, hw, hr]
   ·have hc : cases = [] := k.c h7
    have h0 : v = 0 := k.v h4
    have hw' : isWait kind = false := by simp [isWait, h4, h5, h7]
    have h0' : wait = 0 := k.w hw'
    subst hc h0 h0'
    by_cases h9 : kind = 9
    ·subst h9
     have h0' : n = 0 := by
      have a := k.n0
      have b := k.n1
      simp [leastOf, mostOf] at a b
      omega
     subst h0'
     rw [if_neg (by simp [countP])]
     refine fin _ ?_
     simp [readP]
    ·rw [if_neg (by simp [countP, h4, h5, h7, h9, n1])]
     refine fin _ ?_
     simp [readP, at_, h4, h5, h7, h9, hn]
theorem at2 {l : List Wd} (h : l.length = 2) : l = [at_ l 0, at_ l 1] := by
 match l, h with
 | [a, b], _ => rfl
theorem at3 {l : List Wd} (h : l.length = 3) : l = [at_ l 0, at_ l 1, at_ l 2] := by
 match l, h with
 | [a, b, c], _ => rfl
structure ChanV where
 room : Int
 server : Int
 deriving DecidableEq, Inhabited
structure TaskV where
 name : List UInt8
 per : Int
 dl : Int
 bud : Int
 prog : List OpV
 deriving DecidableEq, Inhabited
structure SetV where
 locks : Int
 chans : List ChanV
 tasks : List TaskV
 deriving DecidableEq, Inhabited
def set0 : SetV := ⟨0, [], []⟩
def knownP (s : SetV) (o : OpV) : Bool :=
 if o.kind = 2 ∨ o.kind = 3 then decide (o.n < s.locks)
 else if o.kind = 4 ∨ o.kind = 5 ∨ o.kind = 6 then decide (o.n < s.chans.length)
 else o.cases.all fun c => decide (c.chan < s.chans.length)
def timesBad (t : TaskV) : Bool := decide (t.per < 1) || (decide (1099511627776 < t.per) || (decide (t.dl < 1) || (decide (t.per < t.dl) || (decide (t.bud < 1) || decide (t.dl < t.bud)))))
def taskP (s : SetV) (i : Nat) (t : TaskV) : Int :=
 if nameP t.name = false then 3
 else if (s.tasks.take i).any (fun u => decide (u.name = t.name)) = true then 6
 else if timesBad t = true then 1
 else if (progP t.prog).2 ≠ 0 then (progP t.prog).2
 else if costP t.prog = 0 then 5
 else if t.prog.all (knownP s) = true then 0 else 3
def tasksGo (s : SetV) : Nat → List TaskV → Int × Int
 | _, [] => (0, 0)
 | i, t :: r => if taskP s i t = 0 then tasksGo s (i + 1) r else ((i : Int), taskP s i t)
def chanBad (s : SetV) (c : ChanV) : Bool := decide (c.room < 0) || (decide (16 < c.room) || (decide (c.server < -1) || decide ((s.tasks.length : Int) ≤ c.server)))
def setP (s : SetV) : Int × Int :=
 if s.locks < 0 ∨ 8 < s.locks then (0, 1)
 else if 8 < s.chans.length ∨ s.tasks.length < 1 ∨ 12 < s.tasks.length then (0, 18)
 else if s.chans.any (chanBad s) = true then (0, 1)
 else tasksGo s 0 s.tasks
theorem tasksGo_ok {s : SetV} : ∀ (l : List TaskV) (i : Nat), (tasksGo s i l).2 = 0 → tasksGo s i l = (0, 0) ∧ ∀ (j : Nat) t, l[j]? = some t → taskP s (i + j) t = 0
 | [], i, h => ⟨rfl, by simp⟩
 | t :: r, i, h => by
   rw [tasksGo] at h ⊢
   by_cases k : taskP s i t = 0
   ·rw [if_pos k] at h ⊢
    obtain ⟨a, b⟩ := tasksGo_ok r (i + 1) h
    refine ⟨a, fun j u hj => ?_⟩
    cases j with
    | zero => simp at hj; subst hj; exact k
    | succ j =>
      have := b j u (by simpa using hj)
      rwa [show i + 1 + j = i + (j + 1) by omega] at this
   ·rw [if_neg k] at h; exact absurd h k
structure SetOk (s : SetV) : Prop where
 l0 : 0 ≤ s.locks
 l1 : s.locks ≤ 8
 c : s.chans.length ≤ 8
 t0 : 1 ≤ s.tasks.length
 t1 : s.tasks.length ≤ 12
 ch : ∀ c ∈ s.chans, 0 ≤ c.room ∧ c.room ≤ 16 ∧ -1 ≤ c.server ∧ c.server < s.tasks.length
 ta : ∀ (i : Nat) t, s.tasks[i]? = some t → taskP s i t = 0
theorem setOk {s : SetV} (h : (setP s).2 = 0) : setP s = (0, 0) ∧ SetOk s := by
 unfold setP at h ⊢
 by_cases h1 : s.locks < 0 ∨ 8 < s.locks
 ·rw [if_pos h1] at h; simp at h
 ·rw [if_neg h1] at h ⊢
  by_cases h2 : 8 < s.chans.length ∨ s.tasks.length < 1 ∨ 12 < s.tasks.length
  ·rw [if_pos h2] at h; simp at h
  ·rw [if_neg h2] at h ⊢
   by_cases h3 : s.chans.any (chanBad s) = true
   ·rw [if_pos h3] at h; simp at h
   ·rw [if_neg h3] at h ⊢
    obtain ⟨a, b⟩ := tasksGo_ok s.tasks 0 h
    refine ⟨a, by omega, by omega, by omega, by omega, by omega, fun c hc => ?_, fun i t ht => by simpa using b i t ht⟩
    have : chanBad s c = false := by
     cases hb : chanBad s c with
     | false => rfl
     | true => exact absurd (List.any_eq_true.2 ⟨c, hc, hb⟩) h3
    simp [chanBad] at this
    omega
structure TaskOk (s : SetV) (t : TaskV) : Prop where
 name : nameP t.name = true
 p0 : 1 ≤ t.per
 p1 : t.per ≤ 1099511627776
 d0 : 1 ≤ t.dl
 d1 : t.dl ≤ t.per
 b0 : 1 ≤ t.bud
 b1 : t.bud ≤ t.dl
 pr : (progP t.prog).2 = 0
 cost : costP t.prog ≠ 0
 kn : ∀ o ∈ t.prog, knownP s o = true
theorem taskOk {s : SetV} {i : Nat} {t : TaskV} (h : taskP s i t = 0) : TaskOk s t ∧ (s.tasks.take i).any (fun u => decide (u.name = t.name)) = false := by
 unfold taskP at h
 by_cases h1 : nameP t.name = false
 ·rw [if_pos h1] at h; omega
 rw [if_neg h1] at h
 by_cases h2 : (s.tasks.take i).any (fun u => decide (u.name = t.name)) = true
 ·rw [if_pos h2] at h; omega
 rw [if_neg h2] at h
 by_cases h3 : timesBad t = true
 ·rw [if_pos h3] at h; omega
 rw [if_neg h3] at h
 by_cases h4 : (progP t.prog).2 ≠ 0
 ·rw [if_pos h4] at h; exact absurd h h4
 rw [if_neg h4] at h
 by_cases h5 : costP t.prog = 0
 ·rw [if_pos h5] at h; omega
 rw [if_neg h5] at h
 by_cases h6 : t.prog.all (knownP s) = true
 ·simp [timesBad] at h3
  exact ⟨⟨by simpa using h1, by omega, by omega, by omega, by omega, by omega, by omega, by omega, h5, fun o ho => List.all_eq_true.1 h6 o ho⟩, by simpa using h2⟩
 ·rw [if_neg h6] at h; omega
theorem progP_ok {p : List OpV} (h : (progP p).2 = 0) : p.length ≤ 48 ∧ ∀ o ∈ p, opCheckP o = 0 := by
 unfold progP at h
 by_cases h1 : 48 < p.length
 ·rw [if_pos h1] at h; simp at h
 rw [if_neg h1] at h
 refine ⟨by omega, ?_⟩
 cases hb : badP p 0 with
 | none => exact badP_none hb
 | some q =>
   obtain ⟨i, e⟩ := q
   rw [hb] at h
   simp only [] at h
   have : ∀ (l : List OpV) (i j : Nat) (e : Int), badP l i = some (j, e) → e ≠ 0 := by
    intro l
    induction l with
    | nil => intro i j e h; simp [badP] at h
    | cons o r ih =>
      intro i j e h
      unfold badP at h
      by_cases hx : opCheckP o = 0
      ·rw [if_pos hx] at h; exact ih _ _ _ h
      ·rw [if_neg hx] at h
       simp at h
       rw [← h.2]; exact hx
   exact absurd h (this _ _ _ _ hb)
def wLocks : Wd := [108, 111, 99, 107, 115]
def wChan : Wd := [99, 104, 97, 110]
def wTask : Wd := [116, 97, 115, 107]
def serveW (n : Int) : Wd := if n < 0 then [45] else itoa n
def chanW (c : ChanV) : Wd := joinC 32 [wChan, itoa c.room, serveW c.server]
def taskW (t : TaskV) : Wd := joinC 32 [wTask, t.name, itoa t.per, itoa t.dl, itoa t.bud]
def taskLines (t : TaskV) : List Wd := taskW t :: t.prog.map opText
def setLines (s : SetV) : List Wd := joinC 32 [wLocks, itoa s.locks] :: (s.chans.map chanW ++ s.tasks.flatMap taskLines)
def printP (s : SetV) : Wd × Int := if (setP s).2 = 0 then (linesOf (setLines s), 0) else ([], (setP s).2)
def small32 (n : Int) : Int × Int := if n < -2147483648 ∨ 2147483647 < n then (0, 14) else (n, 0)
def countW (w : Wd) : Int × Int := if (numP w).2 = 0 then small32 (numP w).1 else (0, (numP w).2)
def servesR (w : Wd) : Int × Int := if w = [45] then (-1, 0) else if (numP w).2 ≠ 0 then (0, (numP w).2) else if (numP w).1 < 0 then (0, 2) else small32 (numP w).1
def locksR (s : SetV) (w : List Wd) : SetV × Int := if w.length ≠ 2 then (s, 2) else ({ s with locks := (countW (at_ w 1)).1 }, (countW (at_ w 1)).2)
def chanR (s : SetV) (w : List Wd) : SetV × Int :=
 if s.chans.length = 8 then (s, 4) else if w.length ≠ 3 then (s, 2) else if (countW (at_ w 1)).2 ≠ 0 then (s, (countW (at_ w 1)).2)
 else ({ s with chans := s.chans ++ [⟨(countW (at_ w 1)).1, (servesR (at_ w 2)).1⟩] }, (servesR (at_ w 2)).2)
def taskR (s : SetV) (w : List Wd) : SetV × Int :=
 if s.tasks.length = 12 then (s, 4) else if w.length ≠ 5 then (s, 2) else if (numP (at_ w 2)).2 ≠ 0 then (s, (numP (at_ w 2)).2) else if (numP (at_ w 3)).2 ≠ 0 then (s, (numP (at_ w 3)).2)
 else if (numP (at_ w 4)).2 ≠ 0 then (s, (numP (at_ w 4)).2)
 else ({ s with tasks := s.tasks ++ [⟨at_ w 1, (numP (at_ w 2)).1, (numP (at_ w 3)).1, (numP (at_ w 4)).1, []⟩] }, 0)
def addOp (o : OpV) : List TaskV → List TaskV
 | [] => []
 | [t] => [{ t with prog := t.prog ++ [o] }]
 | t :: r => t :: addOp o r
def lastLen : List TaskV → Nat
 | [] => 0
 | [t] => t.prog.length
 | _ :: r => lastLen r
def stepR (s : SetV) (line : Wd) : SetV × Int := if lastLen s.tasks = 48 then (s, 4) else ({ s with tasks := addOp (parseP line).1 s.tasks }, (parseP line).2)
def lineSR (s : SetV) (i : Nat) (t : Wd) : SetV × Int := match wordsP t with
 | none => (s, 2)
 | some w =>
   if i = 0 ∧ at_ w 0 = wLocks then locksR s w
   else if 0 < i ∧ at_ w 0 = wChan ∧ s.tasks = [] then chanR s w
   else if 0 < i ∧ at_ w 0 = wTask then taskR s w
   else if s.tasks ≠ [] ∧ kindOf (at_ w 0) ≠ 0 then stepR s t
   else (s, 2)
def setGo : Nat → List Wd → SetV → SetV × Int × Int
 | _, [], s => if (setP s).2 = 0 then (s, 0, 0) else (set0, 0, (setP s).2)
 | i, l :: ls, s => if (lineSR s i l).2 = 0 then setGo (i + 1) ls (lineSR s i l).1 else (set0, (i : Int), (lineSR s i l).2)
def setR (t : Wd) : SetV × Int × Int := match linesP t with
 | none => (set0, 0, 2)
 | some [] => (set0, 0, 2)
 | some (l :: ls) => setGo 0 (l :: ls) set0
theorem name_ok {w : Wd} (h : nameP w = true) : wordOk w = true := by
 simp only [nameP, Bool.and_eq_true, decide_eq_true_eq] at h
 obtain ⟨⟨h1, h2⟩, h3⟩ := h
 simp only [wordOk, Bool.and_eq_true]
 refine ⟨by cases w with
  | nil => simp at h1
  | cons _ _ => rfl, List.all_eq_true.2 fun b hb => ?_⟩
 have := List.all_eq_true.1 h3 b hb
 simp [isLow] at this
 simp [isSeen]
 omega
theorem small32_in {n : Int} (h0 : -2147483648 ≤ n) (h1 : n ≤ 2147483647) : small32 n = (n, 0) := by
 unfold small32; rw [if_neg (by omega)]
theorem countW_itoa {n : Int} (h0 : -2147483648 ≤ n) (h1 : n ≤ 2147483647) : countW (itoa n) = (n, 0) := by
 unfold countW
 rw [numP_itoa (by omega) (by omega), if_pos rfl, small32_in h0 h1]
theorem servesR_back {n : Int} (h0 : -1 ≤ n) (h1 : n ≤ 2147483647) : servesR (serveW n) = (n, 0) := by
 unfold servesR serveW
 by_cases k : n < 0
 ·rw [if_pos k, if_pos rfl]
  have : n = -1 := by omega
  rw [this]
 ·rw [if_neg k, if_neg (itoa_dash (by omega) (by omega)), numP_itoa (by omega) (by omega), if_neg (by simp), if_neg k, small32_in (by omega) h1]
theorem serveW_ok {n : Int} (h0 : -1 ≤ n) (h1 : n ≤ 2147483647) : wordOk (serveW n) = true := by
 unfold serveW
 by_cases k : n < 0
 ·rw [if_pos k]; decide
 ·rw [if_neg k]; exact itoa_ok (by omega) (by omega)
theorem locks_back {n : Int} (h0 : 0 ≤ n) (h1 : n ≤ 8) : lineSR set0 0 (joinC 32 [wLocks, itoa n]) = ({ set0 with locks := n }, 0) := by
 unfold lineSR
 have hw : ([wLocks, itoa n] : List Wd).all wordOk = true := by
  simp only [List.all_cons, List.all_nil, itoa_ok (n := n) (by omega) (by omega)]
  decide
 rw [words_of hw]
 simp only []
 rw [if_pos ⟨trivial, rfl⟩]
 unfold locksR
 rw [if_neg (by simp)]
 rw [show at_ [wLocks, itoa n] 1 = itoa n from rfl, countW_itoa (by omega) (by omega)]
theorem chan_back {s : SetV} {i : Nat} {c : ChanV} (hi : 0 < i) (ht : s.tasks = []) (hl : s.chans.length < 8) (r0 : 0 ≤ c.room) (r1 : c.room ≤ 16) (s0 : -1 ≤ c.server) (s1 : c.server < 13) :
  lineSR s i (chanW c) = ({ s with chans := s.chans ++ [c] }, 0) := by
 unfold lineSR chanW
 have hw : ([wChan, itoa c.room, serveW c.server] : List Wd).all wordOk = true := by
  simp only [List.all_cons, List.all_nil, itoa_ok (n := c.room) (by omega) (by omega), serveW_ok s0 (by omega)]
  decide
 rw [words_of hw]
 simp only []
 rw [if_neg (by omega), if_pos ⟨hi, rfl, ht⟩]
 unfold chanR
 rw [show at_ [wChan, itoa c.room, serveW c.server] 1 = itoa c.room from rfl, show at_ [wChan, itoa c.room, serveW c.server] 2 = serveW c.server from rfl]
 rw [if_neg (by omega), if_neg (by simp), countW_itoa (by omega) (by omega), if_neg (by simp), servesR_back s0 (by omega)]
theorem task_back {s : SetV} {i : Nat} {t : TaskV} (hi : 0 < i) (hl : s.tasks.length < 12) (hn : nameP t.name = true) (p0 : inI t.per) (p1 : inI t.dl) (p2 : inI t.bud) :
  lineSR s i (taskW t) = ({ s with tasks := s.tasks ++ [{ t with prog := [] }] }, 0) := by
 unfold lineSR taskW
 have hw : ([wTask, t.name, itoa t.per, itoa t.dl, itoa t.bud] : List Wd).all wordOk = true := by
  simp only [List.all_cons, List.all_nil, itoa_ok p0.1 p0.2, itoa_ok p1.1 p1.2, itoa_ok p2.1 p2.2, name_ok hn, show wordOk wTask = true by decide, Bool.and_self]
 rw [words_of hw]
 simp only []
 rw [if_neg (by omega), if_neg (by rintro ⟨_, h, _⟩; exact absurd (show wTask = wChan from h) (by decide)), if_pos ⟨hi, rfl⟩]
 unfold taskR
 rw [show at_ [wTask, t.name, itoa t.per, itoa t.dl, itoa t.bud] 1 = t.name from rfl, show at_ [wTask, t.name, itoa t.per, itoa t.dl, itoa t.bud] 2 = itoa t.per from rfl,
  show at_ [wTask, t.name, itoa t.per, itoa t.dl, itoa t.bud] 3 = itoa t.dl from rfl, show at_ [wTask, t.name, itoa t.per, itoa t.dl, itoa t.bud] 4 = itoa t.bud from rfl]
 rw [if_neg (by omega), if_neg (by simp), numP_itoa p0.1 p0.2, numP_itoa p1.1 p1.2, numP_itoa p2.1 p2.2, if_neg (by simp), if_neg (by simp), if_neg (by simp)]
theorem opWords_head (x : OpV) : at_ (opWords x) 0 = wordOf x.kind := rfl
theorem words_apart {k : Int} (h0 : 1 ≤ k) (h9 : k ≤ 9) : wordOf k ≠ wLocks ∧ wordOf k ≠ wChan ∧ wordOf k ≠ wTask := by
 rcases kinds9 h0 h9 with rfl | rfl | rfl | rfl | rfl | rfl | rfl | rfl | rfl <;> decide
theorem op_back {s : SetV} {i : Nat} {o : OpV} (hi : 0 < i) (ht : s.tasks ≠ []) (hl : lastLen s.tasks < 48) (ho : opCheckP o = 0) (hf : o.fine) :
  lineSR s i (opText o) = ({ s with tasks := addOp o s.tasks }, 0) := by
 have hk := opOk ho
 have h0 : 1 ≤ o.kind := hk.k0
 have h9 : o.kind ≤ 9 := hk.k9
 have e : opText o = joinC 32 (opWords o) := by unfold opText; rw [if_neg (by omega)]
 unfold lineSR
 rw [e, words_of (opWords_ok ho hf)]
 simp only []
 have ha := words_apart h0 h9
 rw [opWords_head]
 rw [if_neg (by omega), if_neg (by intro h; exact ha.2.1 h.2.1), if_neg (by intro h; exact ha.2.2 h.2), if_pos ⟨ht, by rw [kind_word h0 h9]; omega⟩]
 unfold stepR
 rw [if_neg (by omega), ← e, parse_text ho hf]
theorem addOp_last (o : OpV) : ∀ (l : List TaskV) (t : TaskV), addOp o (l ++ [t]) = l ++ [{ t with prog := t.prog ++ [o] }]
 | [], t => rfl
 | [a], t => rfl
 | a :: b :: l, t => by
   have := addOp_last o (b :: l) t
   simp only [List.cons_append] at this ⊢
   rw [addOp, this]
   simp
theorem lastLen_last : ∀ (l : List TaskV) (t : TaskV), lastLen (l ++ [t]) = t.prog.length
 | [], t => rfl
 | [a], t => rfl
 | a :: b :: l, t => by
   have := lastLen_last (b :: l) t
   simp only [List.cons_append] at this ⊢
   rw [lastLen, this]
   simp
theorem setGo_ops : ∀ (os : List OpV) (rest : List Wd) (i : Nat) (s : SetV) (l : List TaskV) (t : TaskV), 0 < i → s.tasks = l ++ [t] → t.prog.length + os.length ≤ 48 → (∀ o ∈ os, opCheckP o = 0 ∧ o.fine) →
  setGo i (os.map opText ++ rest) s = setGo (i + os.length) rest { s with tasks := l ++ [{ t with prog := t.prog ++ os }] }
 | [], rest, i, s, l, t, hi, ht, hl, ho => by
   simp only [List.map_nil, List.nil_append, List.length_nil, Nat.add_zero, List.append_nil, ← ht]
 | o :: os, rest, i, s, l, t, hi, ht, hl, ho => by
   simp only [List.length_cons] at hl
   have h1 := ho o (by simp)
   have hb := op_back (s := s) (i := i) (o := o) hi (by rw [ht]; simp) (by rw [ht, lastLen_last]; omega) h1.1 h1.2
   rw [ht, addOp_last] at hb
   simp only [List.map_cons, List.cons_append]
   rw [setGo, hb, if_pos rfl]
   rw [setGo_ops os rest (i + 1) _ l { t with prog := t.prog ++ [o] } (by omega) rfl (by simp; omega) fun o' ho' => ho o' (by simp [ho'])]
   simp only [List.length_cons, List.append_assoc, List.cons_append, List.nil_append]
   rw [show i + 1 + os.length = i + (os.length + 1) by omega]
theorem setGo_tasks : ∀ (ts : List TaskV) (i : Nat) (s : SetV), 0 < i → s.tasks.length + ts.length ≤ 12 → (∀ t ∈ ts, nameP t.name = true ∧ inI t.per ∧ inI t.dl ∧ inI t.bud ∧ t.prog.length ≤ 48 ∧ ∀ o ∈ t.prog, opCheckP o = 0 ∧ o.fine) →
  ∃ j, setGo i (ts.flatMap taskLines) s = setGo j [] { s with tasks := s.tasks ++ ts }
 | [], i, s, hi, hl, h => ⟨i, by simp⟩
 | t :: ts, i, s, hi, hl, h => by
   simp only [List.length_cons] at hl
   obtain ⟨n1, n2, n3, n4, n5, n6⟩ := h t (by simp)
   rw [List.flatMap_cons, taskLines, List.cons_append, setGo, task_back hi (by omega) n1 n2 n3 n4, if_pos rfl]
   rw [setGo_ops t.prog _ (i + 1) _ s.tasks { t with prog := [] } (by omega) rfl (by simpa using n5) n6]
   obtain ⟨j, hj⟩ := setGo_tasks ts (i + 1 + t.prog.length) { s with tasks := s.tasks ++ [t] } (by omega) (by simp; omega) fun u hu => h u (by simp [hu])
   refine ⟨j, ?_⟩
   simp only [List.nil_append]
   rw [hj]
   simp
theorem setGo_chans : ∀ (cs : List ChanV) (rest : List Wd) (i : Nat) (s : SetV), 0 < i → s.tasks = [] → s.chans.length + cs.length ≤ 8 → (∀ c ∈ cs, 0 ≤ c.room ∧ c.room ≤ 16 ∧ -1 ≤ c.server ∧ c.server < 13) →
  setGo i (cs.map chanW ++ rest) s = setGo (i + cs.length) rest { s with chans := s.chans ++ cs }
 | [], rest, i, s, hi, ht, hl, h => by simp
 | c :: cs, rest, i, s, hi, ht, hl, h => by
   simp only [List.length_cons] at hl
   obtain ⟨a, b, d, e⟩ := h c (by simp)
   simp only [List.map_cons, List.cons_append]
   rw [setGo, chan_back hi ht (by omega) a b d e, if_pos rfl]
   rw [setGo_chans cs rest (i + 1) { s with chans := s.chans ++ [c] } (by omega) ht (by simp; omega) fun u hu => h u (by simp [hu])]
   simp only [List.length_cons, List.append_assoc, List.cons_append, List.nil_append]
   rw [show i + 1 + cs.length = i + (cs.length + 1) by omega]
def SetV.fine (s : SetV) : Prop := ∀ t ∈ s.tasks, ∀ o ∈ t.prog, o.fine
theorem line_no10 {l : List Wd} (h : l.all wordOk = true) : ∀ b ∈ joinC 32 l, b ≠ 10 := by
 have hw : ∀ w ∈ l, ∀ b ∈ w, b ≠ 10 := fun w hw b hb e => by
  have := List.all_eq_true.1 h w hw
  simp only [wordOk, Bool.and_eq_true] at this
  have := List.all_eq_true.1 this.2 b hb
  rw [e] at this
  simp [isSeen] at this
 clear h
 induction l with
 | nil => simp [joinC]
 | cons w r ih =>
   intro b hb
   cases r with
   | nil => simp [joinC] at hb; exact hw w (by simp) b hb
   | cons u r =>
     rw [joinC_cons (by simp)] at hb
     rcases List.mem_append.1 hb with hb | hb
     ·exact hw w (by simp) b hb
     ·rcases List.mem_cons.1 hb with rfl | hb
      ·decide
      ·exact ih (fun x hx => hw x (by simp [hx])) b hb
theorem taskFine {s : SetV} (k : SetOk s) (f : s.fine) : ∀ t ∈ s.tasks, nameP t.name = true ∧ inI t.per ∧ inI t.dl ∧ inI t.bud ∧ t.prog.length ≤ 48 ∧ ∀ o ∈ t.prog, opCheckP o = 0 ∧ o.fine := by
 intro t ht
 obtain ⟨i, hi⟩ := List.mem_iff_getElem?.1 ht
 have q := (taskOk (k.ta i t hi)).1
 obtain ⟨a, b⟩ := progP_ok q.pr
 have := q.p0; have := q.p1; have := q.d0; have := q.d1; have := q.b0; have := q.b1
 exact ⟨q.name, ⟨by omega, by omega⟩, ⟨by omega, by omega⟩, ⟨by omega, by omega⟩, a, fun o ho => ⟨b o ho, f t ht o ho⟩⟩
theorem setLines_no10 {s : SetV} (k : SetOk s) (f : s.fine) : ∀ w ∈ setLines s, ∀ b ∈ w, b ≠ 10 := by
 intro w hw
 unfold setLines at hw
 rcases List.mem_cons.1 hw with rfl | hw
 ·refine line_no10 ?_
  have := k.l0; have := k.l1
  simp only [List.all_cons, List.all_nil, itoa_ok (n := s.locks) (by omega) (by omega)]
  decide
 ·rcases List.mem_append.1 hw with hw | hw
  ·obtain ⟨c, hc, rfl⟩ := List.mem_map.1 hw
   have := k.ch c hc
   have := k.t1
   refine line_no10 ?_
   simp only [List.all_cons, List.all_nil, itoa_ok (n := c.room) (by omega) (by omega), serveW_ok (n := c.server) (by omega) (by omega)]
   decide
  ·obtain ⟨t, ht, hw⟩ := List.mem_flatMap.1 hw
   obtain ⟨n1, n2, n3, n4, n5, n6⟩ := taskFine k f t ht
   rcases List.mem_cons.1 hw with rfl | hw
   ·refine line_no10 ?_
    simp only [List.all_cons, List.all_nil, itoa_ok n2.1 n2.2, itoa_ok n3.1 n3.2, itoa_ok n4.1 n4.2, name_ok n1]
    decide
   ·obtain ⟨o, ho, rfl⟩ := List.mem_map.1 hw
    have q := n6 o ho
    have hk := opOk q.1
    have h0 : 1 ≤ o.kind := hk.k0
    have h9 : o.kind ≤ 9 := hk.k9
    have e : opText o = joinC 32 (opWords o) := by unfold opText; rw [if_neg (by omega)]
    rw [e]
    exact line_no10 (opWords_ok q.1 q.2)
theorem setR_back {s : SetV} (h : (setP s).2 = 0) (f : s.fine) : setR (linesOf (setLines s)) = (s, 0, 0) := by
 obtain ⟨hs, k⟩ := setOk h
 unfold setR
 rw [lines_of (setLines_no10 k f)]
 have hl0 := k.l0; have hl1 := k.l1; have ht1 := k.t1
 simp only [setLines]
 rw [setGo, locks_back hl0 hl1, if_pos rfl]
 rw [setGo_chans s.chans _ 1 _ (by omega) rfl (by simpa [set0] using k.c) fun c hc => by have := k.ch c hc; omega]
 obtain ⟨j, hj⟩ := setGo_tasks s.tasks (0 + 1 + s.chans.length) { set0 with locks := s.locks, chans := set0.chans ++ s.chans } (by omega) (by simpa [set0] using ht1) (taskFine k f)
 rw [hj]
 have e : ({ set0 with locks := s.locks, chans := set0.chans ++ s.chans, tasks := set0.tasks ++ s.tasks } : SetV) = s := by simp [set0]
 simp only [] at e ⊢
 rw [e, setGo, if_pos h]
def depthOk : List OpV → Nat → Prop
 | [], _ => True
 | o :: r, d => if o.kind = 8 then d < 3 ∧ depthOk r (d + 1) else if o.kind = 9 then 0 < d ∧ depthOk r (d - 1) else depthOk r d
theorem order_depth : ∀ (l : List OpV) (s s' : Ord) (i : Nat), orderP l s i = .inr s' → depthOk l s.2.length
 | [], s, s', i, h => trivial
 | o :: r, s, s', i, h => by
   simp only [orderP] at h
   cases ht : takeP s o with
   | none => rw [ht] at h; cases h
   | some t =>
     rw [ht] at h
     have ih := order_depth r t s' (i + 1) h
     unfold takeP at ht
     rw [depthOk]
     by_cases k8 : o.kind = 8
     ·rw [if_pos k8] at ht ⊢
      split at ht
      ·rename_i h3
       simp only [Option.some.injEq] at ht
       subst ht
       exact ⟨h3, by simpa using ih⟩
      ·cases ht
     ·rw [if_neg k8] at ht ⊢
      by_cases k9 : o.kind = 9
      ·rw [if_pos k9] at ht ⊢
       split at ht
       ·cases ht
       ·rename_i q u us hs
        split at ht
        ·simp only [Option.some.injEq] at ht
         subst ht
         rw [hs]
         exact ⟨by simp, by simpa using ih⟩
        ·cases ht
      ·rw [if_neg k9] at ht ⊢
       have hs : t.2 = s.2 := by
        repeat' split at ht
        all_goals first | (cases ht; done) | (simp only [Option.some.injEq] at ht; subst ht; rfl)
       rwa [hs] at ih
def potS : List (Int × Int) → Int → Int
 | [], st => st
 | q :: qs, st => potS qs (q.2 + 32 * st)
theorem potS_ge : ∀ (os : List (Int × Int)) {a : Int}, 0 ≤ a → (∀ q ∈ os, 0 ≤ q.2) → a ≤ potS os a
 | [], a, h, _ => Int.le_refl _
 | q :: qs, a, h, hq => by
   have h1 := hq q (by simp)
   have := potS_ge qs (a := q.2 + 32 * a) (by omega) fun u hu => hq u (by simp [hu])
   simp only [potS]
   omega
def clamp40 (n : Int) : Int := if n < -1099511627776 ∨ 1099511627776 < n then -1 else n
def runOp : OpV := ⟨1, 1, 0, 0, []⟩
def ch1 : ChanV := ⟨1, -1⟩
def tkN (c i : Nat) : TaskV := ⟨[UInt8.ofNat (97 + i)], 99, 99, 99, List.replicate (if i = 0 then c else 1) runOp⟩
def longS (a b c : Nat) : SetV := ⟨0, List.replicate b ch1, (List.range a).map (tkN c)⟩
theorem run_text : opText runOp = [114, 117, 110, 32, 49] := by decide
theorem ch1_text : chanW ch1 = [99, 104, 97, 110, 32, 49, 32, 45] := by decide
theorem run_ok : opCheckP runOp = 0 ∧ runOp.fine := ⟨by decide, ⟨by decide, by decide⟩, by simp [runOp]⟩
theorem i99 : itoa 99 = [57, 57] := by decide
theorem tk_text (c i : Nat) : taskW (tkN c i) = [116, 97, 115, 107, 32] ++ ([UInt8.ofNat (97 + i)] ++ [32, 57, 57, 32, 57, 57, 32, 57, 57]) := by
 simp [taskW, tkN, joinC, wTask, i99]
theorem tk_name {i : Nat} (h : i < 13) (c : Nat) : nameP (tkN c i).name = true := by
 have : ∀ i : Fin 13, nameP [UInt8.ofNat (97 + i.val)] = true := by decide
 exact this ⟨i, h⟩
theorem name_inj {i j : Nat} (hi : i < 13) (hj : j < 13) (h : [UInt8.ofNat (97 + i)] = [UInt8.ofNat (97 + j)]) : i = j := by
 have : ∀ i j : Fin 13, [UInt8.ofNat (97 + i.val)] = [UInt8.ofNat (97 + j.val)] → i = j := by decide
 exact congrArg Fin.val (this ⟨i, hi⟩ ⟨j, hj⟩ h)
theorem runs_ok : ∀ k : Fin 49, (progP (List.replicate k.val runOp)).2 = 0 ∧ costP (List.replicate k.val runOp) = k.val := by decide +kernel
theorem setGo_task {t : TaskV} {rest : List Wd} {i : Nat} {s : SetV} (hi : 0 < i) (hl : s.tasks.length < 12) (n1 : nameP t.name = true) (n2 : inI t.per) (n3 : inI t.dl) (n4 : inI t.bud) (n5 : t.prog.length ≤ 48) (n6 : ∀ o ∈ t.prog, opCheckP o = 0 ∧ o.fine) :
  setGo i (taskLines t ++ rest) s = setGo (i + 1 + t.prog.length) rest { s with tasks := s.tasks ++ [t] } := by
 rw [taskLines, List.cons_append, setGo, task_back hi (by omega) n1 n2 n3 n4, if_pos rfl]
 rw [setGo_ops t.prog _ (i + 1) _ s.tasks { t with prog := [] } (by omega) rfl (by simpa using n5) n6]
 simp only [List.nil_append]
theorem tk_fine {c i : Nat} (hi : i < 13) (hc : c ≤ 48) : nameP (tkN c i).name = true ∧ inI (tkN c i).per ∧ inI (tkN c i).dl ∧ inI (tkN c i).bud ∧ (tkN c i).prog.length ≤ 48 ∧ ∀ o ∈ (tkN c i).prog, opCheckP o = 0 ∧ o.fine := by
 refine ⟨tk_name hi c, ⟨by simp [tkN], by simp [tkN]⟩, ⟨by simp [tkN], by simp [tkN]⟩, ⟨by simp [tkN], by simp [tkN]⟩, ?_, fun o ho => ?_⟩
 ·simp only [tkN, List.length_replicate]; split <;> omega
 ·have : o = runOp := List.eq_of_mem_replicate ho
  subst this
  exact run_ok
def endAt (c : Nat) : Nat → Nat
 | 0 => 0
 | i + 1 => endAt c i + 1 + (if i = 0 then c else 1)
theorem setGo_tks (c : Nat) (hc : c ≤ 48) (rest : List Wd) : ∀ (n k i : Nat) (s : SetV), 0 < i → s.tasks.length = k → k + n ≤ 12 →
  setGo i (((List.range' k n).map (tkN c)).flatMap taskLines ++ rest) s = setGo (i + (endAt c (k + n) - endAt c k)) rest { s with tasks := s.tasks ++ (List.range' k n).map (tkN c) }
 | 0, k, i, s, hi, hk, h => by simp
 | n + 1, k, i, s, hi, hk, h => by
   obtain ⟨a1, a2, a3, a4, a5, a6⟩ := tk_fine (i := k) (c := c) (by omega) hc
   rw [List.range'_succ, List.map_cons, List.flatMap_cons, List.append_assoc, setGo_task hi (by omega) a1 a2 a3 a4 a5 a6]
   rw [setGo_tks c hc rest n (k + 1) _ { s with tasks := s.tasks ++ [tkN c k] } (by omega) (by simp; omega) (by omega)]
   have hm : ∀ m k, endAt c k ≤ endAt c (k + m) := by
    intro m
    induction m with
    | zero => intro k; simp
    | succ m ih => intro k; have := ih k; rw [← Nat.add_assoc, endAt]; omega
   have h1 := hm n (k + 1)
   have h2 : endAt c (k + 1) = endAt c k + 1 + (tkN c k).prog.length := by rw [endAt]; simp [tkN]
   rw [show k + (n + 1) = k + 1 + n by omega]
   congr 1
   ·omega
   ·simp
theorem long_task {a b c i : Nat} (ha : a ≤ 12) (hb : b ≤ 8) (c1 : 1 ≤ c) (hc : c ≤ 48) (hi : i < a) : taskP (longS a b c) i (tkN c i) = 0 := by
 have hk : ∃ k : Fin 49, (tkN c i).prog = List.replicate k.val runOp ∧ 1 ≤ k.val := by
  by_cases h0 : i = 0
  ·exact ⟨⟨c, by omega⟩, by simp [tkN, h0], c1⟩
  ·exact ⟨⟨1, by omega⟩, by simp [tkN, h0], by simp⟩
 obtain ⟨k, hk, hk1⟩ := hk
 obtain ⟨r1, r2⟩ := runs_ok k
 unfold taskP
 rw [if_neg (by simp [tk_name (show i < 13 by omega) c]), if_neg, if_neg (by simp [timesBad, tkN]), hk, if_neg (by simp [r1]), if_neg (by omega), if_pos]
 ·rw [List.all_eq_true]
  intro o ho
  have : o = runOp := List.eq_of_mem_replicate ho
  subst this
  rfl
 ·rw [List.any_eq_true]
  rintro ⟨u, hu, hn⟩
  have hn := of_decide_eq_true hn
  obtain ⟨j, hj, rfl⟩ := List.mem_iff_getElem.1 hu
  rw [List.length_take] at hj
  rw [List.getElem_take] at hn
  simp only [longS, List.getElem_map, List.getElem_range] at hn
  have := name_inj (i := j) (j := i) (by omega) (by omega) hn
  omega
theorem long_tasks {a b c : Nat} (ha : a ≤ 12) (hb : b ≤ 8) (c1 : 1 ≤ c) (hc : c ≤ 48) : ∀ (n k : Nat), k + n ≤ a → tasksGo (longS a b c) k ((List.range' k n).map (tkN c)) = (0, 0)
 | 0, k, h => by simp [tasksGo]
 | n + 1, k, h => by
   rw [List.range'_succ, List.map_cons, tasksGo, if_pos (long_task ha hb c1 hc (by omega))]
   exact long_tasks ha hb c1 hc n (k + 1) (by omega)
theorem long_ok {a b c : Nat} (a1 : 1 ≤ a) (ha : a ≤ 12) (hb : b ≤ 8) (c1 : 1 ≤ c) (hc : c ≤ 48) : (setP (longS a b c)).2 = 0 := by
 unfold setP
 rw [if_neg (by simp [longS]), if_neg (by simp [longS]; omega), if_neg]
 ·have := long_tasks ha hb c1 hc a 0 (by omega)
  rw [← List.range_eq_range'] at this
  rw [show (longS a b c).tasks = (List.range a).map (tkN c) from rfl, this]
 ·rw [List.any_eq_true]
  rintro ⟨u, hu, hn⟩
  have : u = ch1 := List.eq_of_mem_replicate hu
  subst this
  simp [chanBad, ch1, longS] at hn
  omega
theorem long_fine (a b c : Nat) : (longS a b c).fine := by
 intro t ht o ho
 obtain ⟨i, _, rfl⟩ := List.mem_map.1 ht
 have : o = runOp := List.eq_of_mem_replicate ho
 subst this
 exact run_ok.2
theorem long_no10 {a b c : Nat} (ha : a ≤ 13) : ∀ w ∈ setLines (longS a b c), ∀ x ∈ w, x ≠ 10 := by
 intro w hw
 unfold setLines at hw
 rcases List.mem_cons.1 hw with rfl | hw
 ·exact line_no10 (show ([wLocks, itoa 0] : List Wd).all wordOk = true by decide)
 ·rcases List.mem_append.1 hw with hw | hw
  ·obtain ⟨u, hu, rfl⟩ := List.mem_map.1 hw
   have : u = ch1 := List.eq_of_mem_replicate hu
   subst this
   rw [ch1_text]
   decide
  ·obtain ⟨t, ht, hw⟩ := List.mem_flatMap.1 hw
   obtain ⟨i, hi, rfl⟩ := List.mem_map.1 ht
   rcases List.mem_cons.1 hw with rfl | hw
   ·rw [tk_text]
    have hi : i < 13 := by have := List.mem_range.1 hi; omega
    have : ∀ i : Fin 13, ∀ x ∈ ([116, 97, 115, 107, 32] ++ ([UInt8.ofNat (97 + i.val)] ++ [32, 57, 57, 32, 57, 57, 32, 57, 57]) : Wd), x ≠ 10 := by decide
    exact this ⟨i, hi⟩
   ·obtain ⟨o, ho, rfl⟩ := List.mem_map.1 hw
    have : o = runOp := List.eq_of_mem_replicate ho
    subst this
    rw [run_text]
    decide
theorem chan_full {s : SetV} {i : Nat} (hi : 0 < i) (ht : s.tasks = []) (hl : s.chans.length = 8) : lineSR s i (chanW ch1) = (s, 4) := by
 rw [ch1_text]
 unfold lineSR
 rw [show wordsP [99, 104, 97, 110, 32, 49, 32, 45] = some [wChan, [49], [45]] by decide]
 simp only []
 rw [if_neg (by omega), if_pos ⟨hi, rfl, ht⟩]
 unfold chanR
 rw [if_pos hl]
theorem task_full {s : SetV} {i c j : Nat} (hi : 0 < i) (hj : j < 13) (hl : s.tasks.length = 12) : lineSR s i (taskW (tkN c j)) = (s, 4) := by
 obtain ⟨n1, n2, n3, n4, _, _⟩ := tk_fine (c := 0) (i := j) hj (by omega)
 have n1 : nameP (tkN c j).name = true := n1
 unfold lineSR taskW
 have hw : ([wTask, (tkN c j).name, itoa (tkN c j).per, itoa (tkN c j).dl, itoa (tkN c j).bud] : List Wd).all wordOk = true := by
  simp only [List.all_cons, List.all_nil, itoa_ok n2.1 n2.2, itoa_ok n3.1 n3.2, itoa_ok n4.1 n4.2, name_ok n1, show wordOk wTask = true by decide, Bool.and_self, show (tkN c j).per = (tkN 0 j).per from rfl, show (tkN c j).dl = (tkN 0 j).dl from rfl, show (tkN c j).bud = (tkN 0 j).bud from rfl]
 rw [words_of hw]
 simp only []
 rw [if_neg (by omega), if_neg (by rintro ⟨_, h, _⟩; exact absurd (show wTask = wChan from h) (by decide)), if_pos ⟨hi, rfl⟩]
 unfold taskR
 rw [if_pos hl]
theorem op_full {s : SetV} {i : Nat} (hi : 0 < i) (ht : s.tasks ≠ []) (hl : lastLen s.tasks = 48) : lineSR s i (opText runOp) = (s, 4) := by
 rw [run_text]
 unfold lineSR
 rw [show wordsP [114, 117, 110, 32, 49] = some [wRun, [49]] by decide]
 simp only []
 rw [if_neg (by omega), if_neg (by rintro ⟨_, h, _⟩; exact absurd (show wRun = wChan from h) (by decide)), if_neg (by rintro ⟨_, h⟩; exact absurd (show wRun = wTask from h) (by decide)), if_pos ⟨ht, by decide⟩]
 unfold stepR
 rw [if_pos hl]
theorem setGo_bad {s : SetV} {i : Nat} {l : Wd} {ls : List Wd} (h : lineSR s i l = (s, 4)) : setGo i (l :: ls) s = (set0, (i : Int), 4) := by
 rw [setGo, h, if_neg (by simp)]
theorem endAt_12 (c : Nat) : endAt c 12 = c + 23 := by simp [endAt]; omega
theorem setR_long {a b c : Nat} (a1 : 1 ≤ a) (ha : a ≤ 13) (hb : b ≤ 9) (c1 : 1 ≤ c) (hc : c ≤ 50) :
  setR (linesOf (setLines (longS a b c))) = if 8 < b then (set0, 9, 4) else if 48 < c then (set0, 1 + (b : Int) + 49, 4) else if 12 < a then (set0, 1 + (b : Int) + 1 + c + 22, 4) else (longS a b c, 0, 0) := by
 by_cases hok : b ≤ 8 ∧ c ≤ 48 ∧ a ≤ 12
 ·rw [if_neg (by omega), if_neg (by omega), if_neg (by omega)]
  exact setR_back (long_ok a1 hok.2.2 hok.1 c1 hok.2.1) (long_fine a b c)
 ·unfold setR
  rw [lines_of (long_no10 ha)]
  simp only [setLines]
  rw [setGo, show (longS a b c).locks = 0 from rfl, locks_back (by omega) (by omega), if_pos rfl]
  simp only []
  have hch : ∀ n, (List.replicate n ch1).map chanW = (List.replicate n (chanW ch1)) := fun n => by simp
  have hcf : ∀ n, ∀ x ∈ List.replicate n ch1, 0 ≤ x.room ∧ x.room ≤ 16 ∧ -1 ≤ x.server ∧ x.server < 13 := fun n x hx => by
   have : x = ch1 := List.eq_of_mem_replicate hx
   subst this
   exact ⟨by decide, by decide, by decide, by decide⟩
  by_cases h8 : 8 < b
  ·rw [if_pos h8]
   obtain rfl : b = 9 := by omega
   rw [show (longS a 9 c).chans.map chanW = (List.replicate 8 ch1).map chanW ++ [chanW ch1] from rfl, List.append_assoc]
   rw [setGo_chans _ _ 1 _ (by omega) rfl (by simp [set0]) (hcf 8)]
   exact setGo_bad (chan_full (by omega) rfl (by simp [set0]))
  ·rw [if_neg h8]
   rw [show (longS a b c).chans = List.replicate b ch1 from rfl, setGo_chans _ _ 1 _ (by omega) rfl (by simp [set0]; omega) (hcf b)]
   have hta : (longS a b c).tasks = (List.range' 0 a).map (tkN c) := by rw [← List.range_eq_range']; rfl
   rw [hta, List.length_replicate]
   by_cases h48 : 48 < c
   ·rw [if_pos h48]
    obtain ⟨q, rfl⟩ : ∃ q, a = q + 1 := ⟨a - 1, by omega⟩
    obtain ⟨n1, n2, n3, n4, _, _⟩ := tk_fine (c := 0) (i := 0) (by omega) (by omega)
    have n1 : nameP (tkN c 0).name = true := n1
    have n2 : inI (tkN c 0).per := n2
    have n3 : inI (tkN c 0).dl := n3
    have n4 : inI (tkN c 0).bud := n4
    rw [List.range'_succ, List.map_cons, List.flatMap_cons, taskLines, List.cons_append, setGo, task_back (by omega) (by simp [set0]) n1 n2 n3 n4, if_pos rfl]
    simp only []
    obtain ⟨d, rfl⟩ : ∃ d, c = 48 + 1 + d := ⟨c - 49, by omega⟩
    have hpr : (tkN (48 + 1 + d) 0).prog.map opText = (List.replicate 48 runOp).map opText ++ (opText runOp :: (List.replicate d runOp).map opText) := by
     show (List.replicate (48 + 1 + d) runOp).map opText = _
     rw [show (48 + 1 + d) = 48 + (1 + d) by omega, ← List.replicate_append_replicate, List.map_append, ← List.replicate_append_replicate]
     rfl
    rw [hpr, List.append_assoc]
    rw [setGo_ops (List.replicate 48 runOp) _ _ _ [] { tkN (48 + 1 + d) 0 with prog := [] } (by omega) (by simp [set0]) (by simp) fun o ho => by
     have : o = runOp := List.eq_of_mem_replicate ho
     subst this
     exact run_ok]
    rw [List.cons_append, setGo_bad (op_full (by omega) (by simp) (by simp [lastLen]))]
    simp
    omega
   ·rw [if_neg h48]
    obtain rfl : a = 13 := by omega
    rw [if_pos (by omega)]
    rw [show (List.range' 0 13).map (tkN c) = (List.range' 0 12).map (tkN c) ++ [tkN c 12] from rfl, List.flatMap_append]
    rw [setGo_tks c (by omega) _ 12 0 _ _ (by omega) (by simp [set0]) (by omega)]
    rw [show ([tkN c 12] : List TaskV).flatMap taskLines = taskW (tkN c 12) :: (tkN c 12).prog.map opText by simp [taskLines]]
    rw [setGo_bad (task_full (by omega) (by omega) (by simp [set0]))]
    rw [Nat.zero_add, endAt_12]
    simp [endAt]
    omega
end Go.Cl
