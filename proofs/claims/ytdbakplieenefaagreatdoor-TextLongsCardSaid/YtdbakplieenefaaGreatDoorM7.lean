/-
  Texts laid together: AWord AWordN AWordT AJoin AWordL AWordS ARead.
-/
import Derived.Test.YtdbakplieenefaaGreatDoorM4
import Derived.Test.YtdbakplieenefaaGreatDoorM5
import Derived.Test.YtdbakplieenefaaGreatDoorS
namespace Go.Cl
open Go
set_option linter.unusedSimpArgs false
set_option linter.unusedVariables false
variable {p : PP}
theorem WF_prim {f : Nat} {g : List CV → Heap → Option (CV × Heap)} {vs : List CV} {h h' : Heap} {r : CV} {K : CV → Heap → Prop} (hp : p.pr f = some g) (e : g vs h = some (r, h')) (k : K r h') : WF p f vs h K :=
 ⟨1, r, h', by simp [PP.call, evCall, hp, e], k⟩
@[simp] theorem binStr_eql {a b : List UInt8} : binStr .eql a b = some (.bool (a == b)) := id rfl
@[simp] theorem binStr_neq {a b : List UInt8} : binStr .neq a b = some (.bool (!(a == b))) := id rfl
@[simp] theorem binStr_add {a b : List UInt8} : binStr .add a b = if a.length + b.length ≤ 9223372036854775807 then some (.str (a ++ b)) else none := id rfl
@[simp] theorem binStr_lss {a b : List UInt8} : binStr .lss a b = some (.bool (bytesLess a b)) := id rfl
def knowns : List Nat := [4, 16, 27, 89, 107, 218, 247, 457]
structure LP (p : PP) : Prop where
 pg : p.Pg = S.pg
 pr : ∀ f, knowns.contains f = false → p.pr f = lib f
theorem LP.no (l : LP p) {f : Nat} (h : (knowns.contains f = false) ∧ (lib f).isNone = true) : p.pr f = none := by
 rw [l.pr f h.1]
 cases hl : lib f with
 | none => rfl
 | some g => rw [hl] at h; cases h.2
theorem wordName_spec (lp : LP p) {s : List UInt8} {h : Heap} (hs : s.length ≤ 9223372036854775807) : WF p 97 [.str s] h fun r h' => r = .bool (nameP s) ∧ h' = h := by
 refine WF_of (by rw [lp.pg]; exact S.pg97) (lp.no ⟨rfl, rfl⟩) ?_
 show W p S.b97 _ _ (retQ [.t 2] _)
 unfold S.b97
 by_cases h1 : (1 : Int) ≤ s.length
 ·by_cases h2 : (s.length : Int) ≤ 8
  ·simp [h1, h2]
   refine WF_prim (g := p124) (r := .str (Lib.trimS s lows)) (h' := h) (by rw [lp.pr 124 rfl]; rfl) ?_ ?_
   ·show (if s.length ≤ 9223372036854775807 ∧ _ ∧ _ then some (CV.str (Lib.trimS s lows), h) else none) = _
    rw [if_pos ⟨hs, by decide, by decide⟩]
   ·have h1' : 1 ≤ s.length := by omega
    have h2' : s.length ≤ 8 := by omega
    simp [isEmpty_lows, nameP, h1', h2']
  ·have h2' : ¬ s.length ≤ 8 := by omega
   simp [h1, h2, nameP, h2']
 ·have h1' : ¬ 1 ≤ s.length := by omega
  simp [h1, nameP, h1']
theorem wordText_spec (lp : LP p) {n : Int} {h : Heap} (h0 : -9223372036854775808 ≤ n) (h1 : n ≤ 9223372036854775807) : WF p 99 [.int .i64 n] h fun r h' => r = .str (itoa n) ∧ h' = h := by
 refine WF_of (by rw [lp.pg]; exact S.pg99) (lp.no ⟨rfl, rfl⟩) ?_
 show W p S.b99 _ _ (retQ [.t 2] _)
 unfold S.b99
 simp
 refine WF_prim (g := p126) (r := .str (itoa n)) (h' := h) (by rw [lp.pr 126 rfl]; rfl) ?_ ?_
 ·show (if -9223372036854775808 ≤ n ∧ n ≤ 9223372036854775807 then some (CV.str (Cl.itoa n), h) else none) = _
  rw [if_pos ⟨h0, h1⟩]
 ·simp
def NumR (x : Int × Int) (h : Heap) (r : CV) (h' : Heap) : Prop := r = .tup [.int .i64 x.1, .int .i64 x.2] ∧ Keep NoneOf h h'
theorem wordNumber_spec (lp : LP p) {s : List UInt8} {h : Heap} (hs : s.length < 4294967281) : WF p 94 [.str s] h (NumR (numP s) h) := by
 refine WF_of (by rw [lp.pg]; exact S.pg94) (lp.no ⟨rfl, rfl⟩) ?_
 show W p S.b94 _ _ (retQ [.t 2, .t 3] _)
 unfold S.b94
 simp
 obtain ⟨t, ht⟩ : ∃ t, t = Lib.trimPrefix s [45] := ⟨_, rfl⟩
 have htl : t.length ≤ s.length := by
  rw [ht]; unfold Lib.trimPrefix; split <;> simp
 have hnum : numP s = if (t == [] || !t.all isDig || (decide (1 < t.length) && t[0]? == some 48) || s == [45, 48]) then (0, 2)
   else match Lib.parseIntB 64 s with
    | .ok v => ((v, 0) : Int × Int)
    | _ => (0, 14) := by rw [ht]; rfl
 refine WF_prim (g := p123) (r := .str t) (h' := h) (by rw [lp.pr 123 rfl]; rfl) (by rw [ht]; rfl) ?_
 clear ht
 by_cases h0 : t = []
 ·have : numP s = (0, 2) := by rw [hnum]; simp [h0]
  simp [h0, NumR, this]
  exact Keep.refl _ _
 ·simp [h0]
  refine WF_prim (g := p124) (r := .str (Lib.trimS t digits)) (h' := h) (by rw [lp.pr 124 rfl]; rfl) ?_ ?_
  ·show (if t.length ≤ 9223372036854775807 ∧ _ ∧ _ then some (CV.str (Lib.trimS t digits), h) else none) = _
   rw [if_pos ⟨by omega, by decide, by decide⟩]
  ·have he := isEmpty_digits (s := t)
   cases hd : t.all isDig with
   | false =>
     rw [hd] at he
     have : numP s = (0, 2) := by rw [hnum]; simp [hd]
     have he' : ¬ Lib.trimS t digits = [] := by simpa using he
     simp [he', he, NumR, this]
     exact Keep.refl _ _
   | true =>
     rw [hd] at he
     have he' : Lib.trimS t digits = [] := by simpa using he
     have hpos := List.length_pos_iff.2 h0
     have hg : t[0]? = some t[0] := List.getElem?_eq_getElem hpos
     have rest : ¬ (1 < t.length ∧ t[0] = 48) → W p S.b94 [] h (fun _ _ _ => True) ∨ True := fun _ => .inr trivial
     have good : ¬ (1 < t.length ∧ t[0] = 48) → s ≠ [45, 48] → numP s = match Lib.parseIntB 64 s with | .ok v => ((v, 0) : Int × Int) | _ => (0, 14) := fun a b => by
      rw [hnum, if_neg]
      simp [h0, hd, hg, b]
      intro c1 c2; exact a ⟨c1, c2⟩
     have parse : ∀ (K : CV → Heap → Prop), s ≠ [45, 48] → (match Lib.parseIntB 64 s with
       | .ok v => K (.tup [.int .i64 v, .nili]) h
       | .range => K (.tup [.int .i64 (Lib.intSat 64 s), .ifc 2 (.ptr h.length 0)]) (h ++ [.arr [] .ro])
       | _ => K (.tup [.int .i64 0, .ifc 2 (.ptr h.length 0)]) (h ++ [.arr [] .ro])) → WF p 125 [.str s, .int .i64 10, .int .i64 64] h K := by
      intro K _ hK
      have hl : s.length ≤ 281474976710656 := by omega
      cases hp : Lib.parseIntB 64 s with
      | ok v => rw [hp] at hK; exact WF_prim (g := p125) (by rw [lp.pr 125 rfl]; rfl) (by simp only [p125, hl, if_true, hp]) hK
      | range => rw [hp] at hK; exact WF_prim (g := p125) (by rw [lp.pr 125 rfl]; rfl) (by simp only [p125, hl, if_true, hp]) hK
      | _ => rw [hp] at hK; exact WF_prim (g := p125) (by rw [lp.pr 125 rfl]; rfl) (by simp only [p125, hl, if_true, hp]) hK
     by_cases c1 : (1 : Int) < t.length
     ·have c1' : 1 < t.length := by omega
      by_cases c2 : t[0] = 48
      ·have hg2 : t[0]? = some 48 := by rw [hg, c2]
       have : numP s = (0, 2) := by rw [hnum]; simp [c1', hg2]
       simp [he', he, c1, hg2, NumR, this]
       exact Keep.refl _ _
      ·have c2' : (t[0].toNat : Int) ≠ 48 := fun e => c2 (by apply UInt8.toNat.inj; simp; omega)
       by_cases c3 : s = [45, 48]
       ·have : numP s = (0, 2) := by rw [hnum]; simp [c3]
        rw [this]
        simp [he', he, c1, hg, c2', c3, NumR]
        exact Keep.refl _ _
       ·have hgd := good (fun x => c2 x.2) c3
        simp [he', he, c1, hg, c2', c3]
        refine parse _ c3 ?_
        cases hp : Lib.parseIntB 64 s <;> rw [hp] at hgd <;> simp [NumR, hgd] <;> first | exact Keep.refl _ _ | exact Keep.app _ _ _
     ·have c1' : ¬ 1 < t.length := by omega
      by_cases c3 : s = [45, 48]
      ·have : numP s = (0, 2) := by rw [hnum]; simp [c3]
       rw [this]
       simp [he', he, c1, c3, NumR]
       exact Keep.refl _ _
      ·have hgd := good (fun x => c1' x.1) c3
       simp [he', he, c1, c3]
       refine parse _ c3 ?_
       cases hp : Lib.parseIntB 64 s <;> rw [hp] at hgd <;> simp [NumR, hgd] <;> first | exact Keep.refl _ _ | exact Keep.app _ _ _
theorem WO_cut {all l : List SOper} {e : Env} {h : Heap} {K : Env → Heap → Prop} (Q : Env → Prop) (w : WO p all l e h fun e' h' => Q e' ∧ h' = h) (k : ∀ e', Q e' → K e' h) : WO p all l e h K :=
 w.mono fun e' h' ⟨a, b⟩ => b ▸ k e' a
theorem Rows.of_flat {α : Type} {e : Cod α} {h : Heap} {P : Nat → Prop} (f : α → List CV) : ∀ (l : List α), (∀ x ∈ l, e.rep h P (f x) x) → Rows e h P (l.flatMap f) l
 | [], _ => Rows.nil
 | x :: l, k => by
   rw [List.flatMap_cons]
   have := (Rows.one (k x (by simp))).append (Rows.of_flat f l fun y hy => k y (by simp [hy]))
   simpa using this
theorem joinC_le {c : UInt8} {n : Nat} : ∀ (l : List (List UInt8)), (∀ w ∈ l, w.length ≤ n) → (joinC c l).length ≤ l.length * (n + 1)
 | [], _ => by simp [joinC]
 | [w], h => by have := h w (by simp); simp [joinC]; omega
 | w :: v :: r, h => by
   have ih := joinC_le (c := c) (v :: r) fun u hu => h u (by simp [hu])
   have := h w (by simp)
   rw [joinC_cons (by simp)]
   simp only [List.length_append, List.length_cons] at ih ⊢
   rw [Nat.succ_mul]
   omega
theorem joinL_C (c : UInt8) : ∀ (l : List (List UInt8)), joinL [c] l = joinC c l
 | [] => rfl
 | [w] => rfl
 | w :: v :: r => by
   rw [joinL, joinL_C c (v :: r)]
   exact (joinC_cons (c := c) (w := w) (ws := v :: r) (by simp)).symm
theorem strsOf_map : ∀ (l : List (List UInt8)), strsOf (l.map .str) = some l
 | [] => rfl
 | w :: r => by rw [List.map_cons, strsOf, strsOf_map r]
theorem rows_str {h : Heap} {P : Nat → Prop} {cells : List CV} {l : List (List UInt8)} (r : Rows .str h P cells l) : cells = l.map .str := by
 apply List.ext_getElem?
 intro i
 have hl : cells.length = l.length := by simpa [Cod.str] using r.1
 rw [List.getElem?_map]
 by_cases hi : i < l.length
 ·have := r.2 i l[i] (List.getElem?_eq_getElem hi)
  simp only [Cod.str, Nat.mul_one] at this
  rw [List.getElem?_eq_getElem hi, Option.map_some]
  have h2 := congrArg (·[0]?) this
  simpa using h2
 ·rw [List.getElem?_eq_none (by omega), List.getElem?_eq_none (by omega)]; rfl
theorem join_spec (lp : LP p) {v : CV} {l : List (List UInt8)} {c : UInt8} {h : Heap} {P : Nat → Prop} (s : Sl .str h P v l) (hl : l.length ≤ 140737488355328) (hj : (joinC c l).length ≤ 140737488355328) :
  WF p 128 [v, .str [c]] h fun r h' => r = .str (joinC c l) ∧ h' = h := by
 obtain ⟨cells, r, ⟨ok, _⟩, rs⟩ := s
 have hc := rows_str rs
 rcases r with ⟨rfl, h0⟩ | ⟨b, o, n, cap, cs, st, rfl, h1, h2, h3, h4⟩
 ·have : l = [] := by rw [h0] at hc; simpa using hc.symm
  subst this
  exact WF_prim (g := p128) (r := .str []) (h' := h) (by rw [lp.pr 128 rfl]; rfl) rfl ⟨rfl, rfl⟩
 ·simp only [Cod.str, Nat.mul_one] at h1 h3 h4
  refine WF_prim (g := p128) (r := .str (joinC c l)) (h' := h) (by rw [lp.pr 128 rfl]; rfl) ?_ ⟨rfl, rfl⟩
  have hcell : cellsAt h b o n = some cells := by
   simp only [cellsAt, h2]
   rw [if_pos h3, h4]
  have hnl : n = l.length := by rw [← h1, hc]; simp
  have hcap : n ≤ cap := ok
  show (match cellsAt h b o n with | some cs => _ | none => none) = _
  rw [hcell]
  show (match strsOf cells with | some xs => _ | none => none) = _
  rw [hc, strsOf_map]
  show (if n ≤ cap ∧ n ≤ 140737488355328 ∧ (joinL [c] l).length ≤ 140737488355328 then some (CV.str (joinL [c] l), h) else none) = _
  rw [joinL_C, if_pos ⟨hcap, by omega, hj⟩]
def BldIs (n : Nat) (h : Heap) (B : Nat) (bs : List UInt8) : Prop :=
 n ≤ B ∧ ((bs = [] ∧ h[B]? = some (.bld tBld none)) ∨ ∃ k, n ≤ k ∧ k ≠ B ∧ bs ≠ [] ∧ h[B]? = some (.bld tBld (some (k, bs.length))) ∧ h[k]? = some (.buf tU8 bs))
theorem BldIs.on {n : Nat} {h h' : Heap} {B : Nat} {bs : List UInt8} (s : BldIs n h B bs) (k : Keep NoneOf h h') : BldIs n h' B bs := by
 refine ⟨s.1, ?_⟩
 rcases s.2 with ⟨a, b⟩ | ⟨j, a1, a2, a3, a4, a5⟩
 ·exact .inl ⟨a, k.at b id⟩
 ·exact .inr ⟨j, a1, a2, a3, k.at a4 id, k.at a5 id⟩
def WordsR (x : Option (List (List UInt8))) (h : Heap) (r : CV) (h' : Heap) : Prop :=
 ∃ v, r = .tup [v, .int .i64 (errOf x)] ∧ Sl .str h' (From h) v (x.getD []) ∧ Keep NoneOf h h'
theorem wordLines_spec (lp : LP p) {s : List UInt8} {h : Heap} (hs : s.length < 4294967281) : WF p 90 [.str s] h (WordsR (linesP s) h) := by
 refine WF_of (by rw [lp.pg]; exact S.pg90) (lp.no ⟨rfl, rfl⟩) ?_
 show W p S.b90 _ _ (retQ [.t 2, .t 3] _)
 unfold S.b90
 by_cases h0 : s = []
 ·subst h0
  rw [show linesP [] = some [] from rfl]
  simp
  exact ⟨.nils, rfl, Sl.nil, Keep.refl _ _⟩
 ·simp [h0]
  refine WF_prim (g := p121) (r := .tup [.str (Lib.trimSuffix s [10]), .bool (Lib.hasSuffix s [10])]) (h' := h) (by rw [lp.pr 121 rfl]; rfl) ?_ ?_
  ·show (if s.length ≤ 9223372036854775807 then some (CV.tup [.str (Lib.trimSuffix s [10]), .bool (Lib.hasSuffix s [10])], h) else none) = _
   rw [if_pos (by omega)]
  ·cases hc : Lib.hasSuffix s [10] with
   | false =>
     rw [show linesP s = none by simp [linesP, h0, hc]]
     simp
     exact ⟨.nils, rfl, Sl.nil, Keep.refl _ _⟩
   | true =>
     simp
     refine WF_prim (g := p122) (r := .sl h.length 0 (splitC 10 (Lib.trimSuffix s [10])).length (splitC 10 (Lib.trimSuffix s [10])).length) (h' := h ++ [.arr ((splitC 10 (Lib.trimSuffix s [10])).map .str) .tight]) (by rw [lp.pr 122 rfl]; rfl) ?_ ?_
     ·show (if (Lib.trimSuffix s [10]).length < 4294967281 then some _ else none) = _
      rw [if_pos ?_]
      have : (Lib.trimSuffix s [10]).length ≤ s.length := by
       unfold Lib.trimSuffix; split <;> simp
      omega
     ·rw [show linesP s = some (splitC 10 (Lib.trimSuffix s [10])) by simp [linesP, h0, hc]]
      exact ⟨_, rfl, Sl.fresh rows_strs rfl, Keep.app _ _ _⟩
def SplInv (v : CV) (l : List (List UInt8)) (H : Heap) (m : Nat) (e : Env) (h' : Heap) : Prop :=
 ∃ i : Nat, i ≤ l.length ∧ m = l.length - i ∧ e = [(4, v), (12, v), (13, .int .i64 l.length), (14, .int .i64 i)] ∧ h' = H ∧ (l.take i).all wordOk = true
def SplInv2 (v : CV) (n i : Nat) (w : List UInt8) (H : Heap) (m : Nat) (e : Env) (h' : Heap) : Prop :=
 ∃ j : Nat, j ≤ w.length ∧ m = w.length - j ∧ e = [(4, v), (6, .str w), (12, v), (13, .int .i64 n), (14, .int .i64 i), (19, .int .i64 w.length), (20, .int .i64 j)] ∧ h' = H ∧ (w.take j).all isSeen = true
theorem splitC_len_le (c : UInt8) : ∀ (s : List UInt8), (splitC c s).length ≤ s.length + 1
 | [] => by simp [splitC]
 | b :: s => by
   have ih := splitC_len_le c s
   simp only [splitC]
   split
   ·simp; omega
   ·cases hs : splitC c s with
    | nil => simp
    | cons w ws => rw [hs] at ih; simp at ih ⊢; omega
theorem splitC_part {c : UInt8} : ∀ {s w : List UInt8}, w ∈ splitC c s → w.length ≤ s.length
 | [], w, h => by simp [splitC] at h; subst h; simp
 | b :: s, w, h => by
   simp only [splitC] at h
   split at h
   ·rcases List.mem_cons.1 h with rfl | h
    ·simp
    ·have := splitC_part h; simp; omega
   ·cases hs : splitC c s with
    | nil => exact absurd hs (splitC_ne c s)
    | cons x xs =>
      rw [hs] at h
      rcases List.mem_cons.1 h with rfl | h
      ·have := splitC_part (c := c) (s := s) (w := x) (by rw [hs]; simp)
       simp; omega
      ·have := splitC_part (c := c) (s := s) (w := w) (by rw [hs]; simp [h])
       simp; omega
theorem wordSplit_spec (lp : LP p) {s : List UInt8} {h : Heap} (hs : s.length < 4294967281) : WF p 92 [.str s] h (WordsR (wordsP s) h) := by
 refine WF_of (by rw [lp.pg]; exact S.pg92) (lp.no ⟨rfl, rfl⟩) ?_
 show W p S.b92 _ _ (retQ [.t 2, .t 3] _)
 unfold S.b92
 by_cases h0 : s = []
 ·subst h0
  rw [show wordsP [] = some [] from rfl]
  simp
  exact ⟨.nils, rfl, Sl.nil, Keep.refl _ _⟩
 ·obtain ⟨l, hl⟩ : ∃ l, l = splitC 32 s := ⟨_, rfl⟩
  have hlen := splitC_len_le 32 s
  have hpart : ∀ w ∈ l, w.length ≤ s.length := fun w hw => splitC_part (by rw [← hl]; exact hw)
  have hpn : ∀ w ∈ l, wordOk w = false → wordsP s = none := fun w hw => words_none h0 (by rw [← hl]; exact hw)
  have hps : l.all wordOk = true → wordsP s = some l := fun ha => by simp only [wordsP, if_neg h0]; rw [← hl, if_pos ha]
  rw [← hl] at hlen
  simp [h0]
  refine WF_prim (g := p122) (r := .sl h.length 0 l.length l.length) (h' := h ++ [.arr (l.map .str) .tight]) (by rw [lp.pr 122 rfl]; rfl) ?_ ?_
  ·show (if s.length < 4294967281 then some _ else none) = _
   rw [if_pos hs, hl]
  ·obtain ⟨H, hH⟩ : ∃ H, H = h ++ [Obj.arr (l.map CV.str) .tight] := ⟨_, rfl⟩
   have sl : Sl .str H (From h) (.sl h.length 0 l.length l.length) l := by rw [hH]; exact Sl.fresh rows_strs rfl
   have kH : Keep NoneOf h H := by rw [hH]; exact Keep.app _ _ _
   rw [← hH]
   clear hH
   generalize hv : CV.sl h.length 0 l.length l.length = v at *
   have nl := sl.len (by decide)
   simp [nl]
   refine W_loop (SplInv v l H) ?_ l.length ⟨0, by omega, by omega, rfl, rfl, rfl⟩
   rintro m e h1 ⟨i, hi, rfl, rfl, rfl, ha⟩
   by_cases hie : i = l.length
   ·subst hie
    rw [List.take_length] at ha
    rw [hps ha]
    simp
    exact ⟨_, rfl, sl, kH⟩
   ·have hlt : i < l.length := by omega
    have hlt' : (i : Int) < l.length := by omega
    obtain ⟨b0, o0, row0, x1, x2, x3, x4⟩ := sl.row (k := .i64) (by decide) hlt
    simp only [Cod.str] at x1 x2 x3 x4
    subst x4
    have x5 := x3 0 (by decide)
    simp at x5
    have hmem : l[i] ∈ l := List.getElem_mem hlt
    have hwl := hpart _ hmem
    have hnone := hpn _ hmem
    have hok : wordOk l[i] = true → (l.take (i + 1)).all wordOk = true := fun hk => by
     rw [List.take_add_one, List.getElem?_eq_getElem hlt, List.all_append, ha]; simp [hk]
    have hw : IntKind.i64.wrap ((i : Int) + 1) = ((i + 1 : Nat) : Int) := by rw [w64 (by omega) (by omega)]; omega
    generalize l[i] = w at *
    simp [hlt', x1, x5]
    refine W_loop (SplInv2 v l.length i w h1) ?_ w.length ⟨0, by omega, by omega, rfl, rfl, rfl⟩
    rintro m e h2 ⟨j, hj, rfl, rfl, rfl, hs2⟩
    by_cases hje : j = w.length
    ·subst hje
     rw [List.take_length] at hs2
     by_cases hwe : w = []
     ·subst hwe
      rw [hnone rfl]
      simp
      exact ⟨.nils, rfl, Sl.nil, kH⟩
     ·have hk : wordOk w = true := by
       simp only [wordOk, hs2]
       cases w <;> simp at hwe ⊢
      simp [hwe, hw]
      exact ⟨l.length - (i + 1), by omega, i + 1, by omega, rfl, rfl, rfl, hok hk⟩
    ·have hjlt : j < w.length := by omega
     have hjlt' : (j : Int) < w.length := by omega
     have hg : w[j]? = some w[j] := List.getElem?_eq_getElem hjlt
     have hwj : IntKind.i64.wrap ((j : Int) + 1) = ((j + 1 : Nat) : Int) := by rw [w64 (by omega) (by omega)]; omega
     have bad : isSeen w[j] = false → wordOk w = false := fun hb => by
      have : w.all isSeen = false := by
       rw [Bool.eq_false_iff]; intro hh
       rw [List.all_eq_true.1 hh _ (List.getElem_mem hjlt)] at hb; cases hb
      simp [wordOk, this]
     by_cases c1 : (w[j].toNat : Int) < 33
     ·rw [hnone (bad (by simp [isSeen]; omega))]
      simp [hjlt', hg, c1]
      exact ⟨.nils, rfl, Sl.nil, kH⟩
     ·by_cases c2 : (126 : Int) < w[j].toNat
      ·rw [hnone (bad (by simp [isSeen]; omega))]
       simp [hjlt', hg, c1, c2]
       exact ⟨.nils, rfl, Sl.nil, kH⟩
      ·have hl1 : isSeen w[j] = true := by simp [isSeen]; omega
       simp [hjlt', hg, c1, c2, hwj]
       refine ⟨w.length - (j + 1), by omega, j + 1, by omega, rfl, rfl, rfl, ?_⟩
       rw [List.take_add_one, hg, List.all_append, hs2]
       simp [hl1]
theorem Read.drop {h : Heap} {esz : Nat} {v : CV} {l : List CV} (g : Read h esz v l) (he : 0 < esz) (ok : v.ok) {k : IntKind} {m : Nat} (hm : m * esz ≤ l.length) :
  ∃ v' h', slSl h esz v (some (.int k (m : Int))) none = some (v', h') ∧ Read h' esz v' (l.drop (m * esz)) ∧ v'.ok ∧ (∀ b, v'.blk = some b → v.blk = some b ∨ h.length ≤ b) ∧ Keep NoneOf h h' := by
 rcases g with ⟨rfl, rfl⟩ | ⟨b, o, n, c, cs, st, rfl, h1, h2, h3, h4⟩
 ·have h0 : m * esz = 0 := by simpa using hm
  have : m = 0 := by
   rcases Nat.mul_eq_zero.1 h0 with h | h
   ·exact h
   ·omega
  subst this
  exact ⟨.nils, h, by simp [slSl, bound], .inl ⟨rfl, by simp⟩, trivial, fun b hb => .inl hb, Keep.refl _ _⟩
 ·have hok : n ≤ c := ok
  have hmn : m ≤ n := by
   rw [h1] at hm
   exact Nat.le_of_mul_le_mul_right hm he
  have e1 : bound (some (.int k (m : Int))) 0 n = some m := by
   simp only [bound]
   rw [if_pos ⟨by omega, by omega⟩]
   simp
  have e2 : bound none n c = some n := by simp [bound]
  by_cases hc : m = c ∧ m ≠ 0
  ·refine ⟨.sl h.length 0 0 0, h ++ [.arr [] .ro], ?_, .inr ⟨h.length, 0, 0, 0, [], .ro, rfl, ?_, by simp, by simp, ?_⟩, Nat.le_refl 0, fun b hb => .inr (by simp [CV.blk] at hb; omega), Keep.app _ _ _⟩
   ·simp only [slSl]
    rw [if_neg (by omega), e2]
    simp only []
    rw [e1]
    simp only []
    rw [if_pos hc]
   ·have : m * esz = n * esz := by rw [show m = n by omega]
    simp; omega
   ·rw [List.drop_eq_nil_of_le]
    ·simp
    ·have : m = n := by omega
     rw [this, h1]; exact Nat.le_refl _
  ·refine ⟨.sl b (o + m * esz) (n - m) (c - m), h, ?_, .inr ⟨b, o + m * esz, n - m, c - m, cs, st, rfl, ?_, h2, ?_, ?_⟩, show n - m ≤ c - m by omega, fun b' hb => .inl hb, Keep.refl _ _⟩
   ·simp only [slSl]
    rw [if_neg (by omega), e2]
    simp only []
    rw [e1]
    simp only []
    rw [if_neg hc]
   ·rw [List.length_drop, h1, Nat.sub_mul]
   ·have : (n - m) * esz = n * esz - m * esz := Nat.sub_mul _ _ _
    have : m * esz ≤ n * esz := Nat.mul_le_mul_right _ hmn
    omega
   ·rw [h4, List.drop_take, List.drop_drop, Nat.sub_mul]
theorem Sl.tail {α : Type} {e : Cod α} {h : Heap} {P : Nat → Prop} {v : CV} {l : List α} (s : Sl e h P v l) (he : 0 < e.n) {k : IntKind} {m : Nat} (hm : m ≤ l.length) :
  ∃ v' h', slSl h e.n v (some (.int k (m : Int))) none = some (v', h') ∧ Sl e h' (fun b => P b ∨ h.length ≤ b) v' (l.drop m) ∧ Keep NoneOf h h' := by
 obtain ⟨c, r, ⟨ok, q⟩, rs⟩ := s
 obtain ⟨v', h', a1, a2, a3, a4, a5⟩ := r.drop he ok (k := k) (m := m) (by rw [rs.1]; exact Nat.mul_le_mul_right _ hm)
 refine ⟨v', h', a1, ⟨_, a2, ⟨a3, fun b hb => ?_⟩, ((rs.drop m).keep a5 fun _ _ => id).mono fun b hb => .inl hb⟩, a5⟩
 rcases a4 b hb with h1 | h1
 ·exact .inl (q b h1)
 ·exact .inr h1
theorem words_ne {s : Wd} {l : List Wd} (h : wordsP s = some l) : ∀ w ∈ l, w ≠ [] ∧ w.length ≤ s.length := by
 unfold wordsP at h
 split at h
 ·cases h; simp
 ·split at h
  ·rename_i ha
   cases h
   intro w hw
   refine ⟨?_, splitC_part hw⟩
   have := List.all_eq_true.1 ha w hw
   rintro rfl
   simp [wordOk] at this
  ·cases h
theorem words_len {s : Wd} {l : List Wd} (h : wordsP s = some l) : l.length ≤ s.length + 1 := by
 unfold wordsP at h
 split at h
 ·cases h; simp
 ·split at h
  ·cases h; exact splitC_len_le 32 s
  ·cases h
def RdI (P : Nat → Prop) (h : Heap) (b : Nat) (l : List Wd) (e : Int) : Prop := ∃ v, h[b]? = some (.arr [v, .int .i64 e] .tight) ∧ Sl .str h P v l
def RdP (P : Nat → Prop) (b n : Nat) : Prop := (∀ k, P k → k ≠ b) ∧ ∀ k, n ≤ k → P k
theorem RdP.mono {P : Nat → Prop} {b n n' : Nat} (r : RdP P b n) (h : n ≤ n') : RdP P b n' := ⟨r.1, fun k hk => r.2 k (Nat.le_trans h hk)⟩
theorem RdI.on {P : Nat → Prop} {h h' : Heap} {b : Nat} {l : List Wd} {e : Int} (r : RdI P h b l e) (k : Keep NoneOf h h') : RdI P h' b l e :=
 let ⟨v, a, s⟩ := r; ⟨v, k.at a id, s.on k⟩
theorem RdI.lt {P : Nat → Prop} {h : Heap} {b : Nat} {l : List Wd} {e : Int} (r : RdI P h b l e) : b < h.length := let ⟨_, a, _⟩ := r; lt_of_get a
end Go.Cl
