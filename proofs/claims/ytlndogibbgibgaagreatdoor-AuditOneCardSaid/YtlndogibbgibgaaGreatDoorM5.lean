/-
  Texts laid together: PWord POpV PWordS PWordJ PWordN PWordD POp PProg POpL PSet PProgS PGraph PScr.
-/
import Derived.Test.YtlndogibbgibgaaGreatDoorM4
namespace Go.Cl
open Go
set_option linter.unusedSimpArgs false
set_option linter.unusedVariables false
def isLow (b : UInt8) : Bool := decide (97 ≤ b.toNat) && decide (b.toNat ≤ 122)
def lows : List UInt8 := [97, 98, 99, 100, 101, 102, 103, 104, 105, 106, 107, 108, 109, 110, 111, 112, 113, 114, 115, 116, 117, 118, 119, 120, 121, 122]
theorem u8_forall {p : UInt8 → Prop} (h : ∀ n : Fin 256, p (UInt8.ofNat n.val)) (b : UInt8) : p b := by
 have := h ⟨b.toNat, b.toNat_lt⟩
 simpa using this
theorem lows_has (b : UInt8) : lows.contains b = isLow b := by
 revert b
 exact u8_forall (by decide +kernel)
theorem dropWhile_nil {α : Type} {p : α → Bool} : ∀ {l : List α}, l.dropWhile p = [] ↔ l.all p = true
 | [] => by simp
 | b :: l => by
   by_cases h : p b = true
   ·simp [List.dropWhile, h, dropWhile_nil (l := l)]
   ·have h' : p b = false := by simpa using h
    simp [List.dropWhile, h']
theorem trimS_nil {l cs : List UInt8} : Lib.trimS l cs = [] ↔ l.all (fun b => cs.contains b) = true := by
 have mem : ∀ (b : UInt8), b ∈ (l.reverse.dropWhile (cs.contains ·)) → b ∈ l := fun b hb => by
  have := (List.dropWhile_sublist (l := l.reverse) (cs.contains ·)).subset hb
  simpa using this
 unfold Lib.trimS Lib.trimLeftS Lib.trimRightS
 rw [dropWhile_nil]
 constructor
 ·intro h
  have h2 : ∀ b ∈ l.reverse.dropWhile (cs.contains ·), cs.contains b = true := fun b hb => by
   have := List.all_eq_true.1 h b (by simpa using hb)
   exact this
  have h3 : l.reverse.dropWhile (cs.contains ·) = [] := by
   cases hd : l.reverse.dropWhile (cs.contains ·) with
   | nil => rfl
   | cons x t =>
     have hx := List.head?_dropWhile_not (cs.contains ·) l.reverse
     rw [hd] at hx
     simp at hx
     have := h2 x (by rw [hd]; simp)
     simp at this
     exact absurd this hx
  rw [dropWhile_nil] at h3
  simpa using h3
 ·intro h
  have h3 : l.reverse.dropWhile (cs.contains ·) = [] := by rw [dropWhile_nil]; simpa using h
  rw [h3]; rfl
def nameP (s : List UInt8) : Bool := decide (1 ≤ s.length) && decide (s.length ≤ 8) && s.all isLow
theorem trim_lows {s : List UInt8} : (Lib.trimS s lows == ([] : List UInt8)) = s.all isLow := by
 have h : s.all (fun b => lows.contains b) = s.all isLow := by congr 1; funext b; exact lows_has b
 by_cases hc : s.all isLow = true
 ·rw [hc, beq_iff_eq, trimS_nil, h, hc]
 ·have : ¬ Lib.trimS s lows = [] := fun e => hc (by rw [← h]; exact trimS_nil.1 e)
  have hf : s.all isLow = false := by simpa using hc
  rw [hf]; simpa using this
theorem isEmpty_lows {s : List UInt8} : (Lib.trimS s lows).isEmpty = s.all isLow := by
 rw [← trim_lows]; cases Lib.trimS s lows <;> rfl
structure Case where
 send : Bool
 chan : Int
 v : Int
 deriving DecidableEq, Inhabited
structure OpV where
 kind : Int
 n : Int
 v : Int
 wait : Int
 cases : List Case
 deriving DecidableEq, Inhabited
def Any : Nat → Prop := fun _ => True
structure CutAt (c : UInt8) (s : List UInt8) (frm i : Nat) (out : List (List UInt8)) : Prop where
 fi : frm ≤ i
 il : i ≤ s.length
 cut : splitC c s = out ++ splitC c (s.drop frm)
 no : ∀ k, frm ≤ k → k < i → s[k]? ≠ some c
theorem CutAt.zero (c : UInt8) (s : List UInt8) : CutAt c s 0 0 [] := ⟨by omega, by omega, by simp, fun k _ h => by omega⟩
theorem CutAt.next {c : UInt8} {s : List UInt8} {f i : Nat} {out : List (List UInt8)} (k : CutAt c s f i out) (hi : i < s.length) (h : s[i]? ≠ some c) : CutAt c s f (i + 1) out :=
 ⟨by have := k.fi; omega, by omega, k.cut, fun j h1 h2 => by
  by_cases e : j = i
  ·subst e; exact h
  ·exact k.no j h1 (by omega)⟩
theorem CutAt.done {c : UInt8} {s : List UInt8} {f : Nat} {out : List (List UInt8)} (k : CutAt c s f s.length out) : splitC c s = out ++ [s.drop f] := by
 rw [k.cut, splitC_none]
 intro j
 rw [List.getElem?_drop]
 by_cases h : f + j < s.length
 ·exact k.no _ (by omega) h
 ·rw [List.getElem?_eq_none (by omega)]; simp
def signed (minus : Bool) (t : List UInt8) : List UInt8 := if minus then 45 :: t else t
abbrev Wd := List UInt8
abbrev wRun : Wd := [114, 117, 110]
abbrev wLock : Wd := [108, 111, 99, 107]
abbrev wUnlock : Wd := [117, 110, 108, 111, 99, 107]
abbrev wSend : Wd := [115, 101, 110, 100]
abbrev wRecv : Wd := [114, 101, 99, 118]
abbrev wClose : Wd := [99, 108, 111, 115, 101]
abbrev wSelect : Wd := [115, 101, 108, 101, 99, 116]
abbrev wLoop : Wd := [108, 111, 111, 112]
abbrev wEnd : Wd := [101, 110, 100]
def isWait (k : Int) : Bool := decide (k = 4) || decide (k = 5) || decide (k = 7)
def waitsP (x : OpV) : Bool := isWait x.kind && !decide (x.wait = 0)
def leastOf (k : Int) : Int := if k = 1 ∨ k = 8 then 1 else 0
def mostOf (k : Int) : Int := if k = 1 then 1000 else if 2 ≤ k ∧ k ≤ 6 then 7 else if k = 8 then 32 else 0
def wordOf (k : Int) : Wd := if k = 1 then wRun else if k = 2 then wLock else if k = 3 then wUnlock else if k = 4 then wSend else if k = 5 then wRecv else if k = 6 then wClose else if k = 7 then wSelect else if k = 8 then wLoop else if k = 9 then wEnd else []
def caseBad (c : Case) : Bool := decide (c.chan < 0) || decide (8 ≤ c.chan) || (!c.send && !decide (c.v = 0))
def casesGo : List Case → List Case → Int
 | _, [] => 0
 | pre, c :: r => if caseBad c then 1 else if pre.any (fun x => decide (x.chan = c.chan)) then 6 else casesGo (pre ++ [c]) r
def casesP (l : List Case) : Int := if l.length < 1 ∨ 4 < l.length then 18 else casesGo [] l
def opCheckP (x : OpV) : Int :=
 if x.kind < 1 ∨ 9 < x.kind then 3
 else if x.n < leastOf x.kind ∨ mostOf x.kind < x.n ∨ (x.kind ≠ 4 ∧ x.v ≠ 0) then 1
 else if (isWait x.kind = false ∧ x.wait ≠ 0) ∨ x.wait < -1 ∨ 1000 < x.wait then 1
 else if x.kind = 7 then casesP x.cases
 else if x.cases ≠ [] then 1 else 0
abbrev Ord := List Int × List (List Int)
def takeP (s : Ord) (o : OpV) : Option Ord :=
 if o.kind = 8 then (if s.2.length < 3 then some (s.1, s.1 :: s.2) else none)
 else if o.kind = 9 then (match s.2 with | [] => none | f :: r => if f = s.1 then some (s.1, r) else none)
 else if o.kind = 2 then (match s.1 with | [] => some ([o.n], s.2) | x :: t => if o.n ≤ x then none else some (o.n :: x :: t, s.2))
 else if o.kind = 3 then (match s.1 with | [] => none | x :: t => if x = o.n then some (t, s.2) else none)
 else if waitsP o = true ∧ s.1 ≠ [] then none else some s
def orderP : List OpV → Ord → Nat → Nat ⊕ Ord
 | [], s, _ => .inr s
 | o :: r, s, i => match takeP s o with
   | none => .inl i
   | some s' => orderP r s' (i + 1)
def badP : List OpV → Nat → Option (Nat × Int)
 | [], _ => none
 | o :: r, i => if opCheckP o = 0 then badP r (i + 1) else some (i, opCheckP o)
theorem badP_none : ∀ {l : List OpV} {i : Nat}, badP l i = none → ∀ o ∈ l, opCheckP o = 0
 | [], _, _, o, h => by simp at h
 | x :: r, i, h, o, ho => by
   unfold badP at h
   by_cases hx : opCheckP x = 0
   ·rw [if_pos hx] at h
    rcases List.mem_cons.1 ho with rfl | ho
    ·exact hx
    ·exact badP_none h o ho
   ·rw [if_neg hx] at h; cases h
def eachP (g : OpV → Int → Int) : List OpV → Int → List Int → Int → Int
 | [], _, _, acc => acc
 | o :: r, t, ts, acc =>
   if o.kind = 8 then eachP g r (t * o.n) (t :: ts) acc
   else if o.kind = 9 then (match ts with | [] => eachP g r t [] acc | u :: us => eachP g r u us acc)
   else eachP g r t ts (acc + g o t)
def stepsP (p : List OpV) : Int := eachP (fun _ t => t) p 1 [] 0
def gCost (o : OpV) (t : Int) : Int := if o.kind = 1 then o.n * t else 0
def costP (p : List OpV) : Int := eachP gCost p 1 [] 0
def progP (p : List OpV) : Int × Int :=
 if 48 < p.length then (0, 18)
 else match badP p 0 with
  | some (i, e) => (i, e)
  | none => match orderP p ([], []) 0 with
    | .inl i => (i, 11)
    | .inr s => if s.2 ≠ [] ∨ s.1 ≠ [] then ((p.length : Int) - 1, 11) else if 512 < stepsP p then (0, 4) else (0, 0)
inductive Fo where
 | nil
 | op (o : OpV) (r : Fo)
 | loop (o : OpV) (b : Fo) (e : OpV) (r : Fo)
def Fo.wf : Fo → Prop
 | .nil => True
 | .op o r => o.kind ≠ 8 ∧ o.kind ≠ 9 ∧ r.wf
 | .loop o b e r => o.kind = 8 ∧ e.kind = 9 ∧ b.wf ∧ r.wf
def Fo.flat : Fo → List OpV
 | .nil => []
 | .op o r => o :: r.flat
 | .loop o b _ r => (List.replicate o.n.toNat b.flat).flatten ++ r.flat
def Fo.sum (g : OpV → Int → Int) : Fo → Int → Int
 | .nil, _ => 0
 | .op o r, t => g o t + r.sum g t
 | .loop o b _ r, t => b.sum g (t * o.n) + r.sum g t
def Fo.app : Fo → Fo → Fo
 | .nil, f => f
 | .op o r, f => .op o (r.app f)
 | .loop o b e r, f => .loop o b e (r.app f)
structure OpOk (x : OpV) : Prop where
 k0 : 1 ≤ x.kind
 k9 : x.kind ≤ 9
 n0 : leastOf x.kind ≤ x.n
 n1 : x.n ≤ mostOf x.kind
 v : x.kind ≠ 4 → x.v = 0
 w : isWait x.kind = false → x.wait = 0
 w0 : -1 ≤ x.wait
 w1 : x.wait ≤ 1000
 c7 : x.kind = 7 → casesP x.cases = 0
 c : x.kind ≠ 7 → x.cases = []
theorem opOk {x : OpV} (h : opCheckP x = 0) : OpOk x := by
 unfold opCheckP at h
 split at h
 ·omega
 ·rename_i h1
  split at h
  ·omega
  ·rename_i h2
   split at h
   ·omega
   ·rename_i h3
    simp only [not_or, not_and, Int.not_lt] at h1 h2 h3
    refine ⟨h1.1, h1.2, h2.1, h2.2.1, fun k => by simpa using h2.2.2 k, fun k => by simpa using h3.1 k, h3.2.1, h3.2.2, fun k => ?_, fun k => ?_⟩
    ·rw [if_pos k] at h; exact h
    ·rw [if_neg k] at h
     split at h
     ·omega
     ·rename_i h4; simpa using h4
structure ChanV where
 room : Int
 server : Int
 deriving DecidableEq, Inhabited
structure TaskV where
 name : List UInt8
 per : Int
 dl : Int
 bud : Int
 prog : List OpV
 deriving DecidableEq, Inhabited
structure SetV where
 locks : Int
 chans : List ChanV
 tasks : List TaskV
 deriving DecidableEq, Inhabited
def knownP (s : SetV) (o : OpV) : Bool :=
 if o.kind = 2 ∨ o.kind = 3 then decide (o.n < s.locks)
 else if o.kind = 4 ∨ o.kind = 5 ∨ o.kind = 6 then decide (o.n < s.chans.length)
 else o.cases.all fun c => decide (c.chan < s.chans.length)
def timesBad (t : TaskV) : Bool := decide (t.per < 1) || (decide (1099511627776 < t.per) || (decide (t.dl < 1) || (decide (t.per < t.dl) || (decide (t.bud < 1) || decide (t.dl < t.bud)))))
def taskP (s : SetV) (i : Nat) (t : TaskV) : Int :=
 if nameP t.name = false then 3
 else if (s.tasks.take i).any (fun u => decide (u.name = t.name)) = true then 6
 else if timesBad t = true then 1
 else if (progP t.prog).2 ≠ 0 then (progP t.prog).2
 else if costP t.prog = 0 then 5
 else if t.prog.all (knownP s) = true then 0 else 3
def tasksGo (s : SetV) : Nat → List TaskV → Int × Int
 | _, [] => (0, 0)
 | i, t :: r => if taskP s i t = 0 then tasksGo s (i + 1) r else ((i : Int), taskP s i t)
def chanBad (s : SetV) (c : ChanV) : Bool := decide (c.room < 0) || (decide (16 < c.room) || (decide (c.server < -1) || decide ((s.tasks.length : Int) ≤ c.server)))
def setP (s : SetV) : Int × Int :=
 if s.locks < 0 ∨ 8 < s.locks then (0, 1)
 else if 8 < s.chans.length ∨ s.tasks.length < 1 ∨ 12 < s.tasks.length then (0, 18)
 else if s.chans.any (chanBad s) = true then (0, 1)
 else tasksGo s 0 s.tasks
theorem tasksGo_ok {s : SetV} : ∀ (l : List TaskV) (i : Nat), (tasksGo s i l).2 = 0 → tasksGo s i l = (0, 0) ∧ ∀ (j : Nat) t, l[j]? = some t → taskP s (i + j) t = 0
 | [], i, h => ⟨rfl, by simp⟩
 | t :: r, i, h => by
   rw [tasksGo] at h ⊢
   by_cases k : taskP s i t = 0
   ·rw [if_pos k] at h ⊢
    obtain ⟨a, b⟩ := tasksGo_ok r (i + 1) h
    refine ⟨a, fun j u hj => ?_⟩
    cases j with
    | zero => simp at hj; subst hj; exact k
    | succ j =>
      have := b j u (by simpa using hj)
      rwa [show i + 1 + j = i + (j + 1) by omega] at this
   ·rw [if_neg k] at h; exact absurd h k
structure SetOk (s : SetV) : Prop where
 l0 : 0 ≤ s.locks
 l1 : s.locks ≤ 8
 c : s.chans.length ≤ 8
 t0 : 1 ≤ s.tasks.length
 t1 : s.tasks.length ≤ 12
 ch : ∀ c ∈ s.chans, 0 ≤ c.room ∧ c.room ≤ 16 ∧ -1 ≤ c.server ∧ c.server < s.tasks.length
 ta : ∀ (i : Nat) t, s.tasks[i]? = some t → taskP s i t = 0
theorem setOk {s : SetV} (h : (setP s).2 = 0) : setP s = (0, 0) ∧ SetOk s := by
 unfold setP at h ⊢
 by_cases h1 : s.locks < 0 ∨ 8 < s.locks
 ·rw [if_pos h1] at h; simp at h
 ·rw [if_neg h1] at h ⊢
  by_cases h2 : 8 < s.chans.length ∨ s.tasks.length < 1 ∨ 12 < s.tasks.length
  ·rw [if_pos h2] at h; simp at h
  ·rw [if_neg h2] at h ⊢
   by_cases h3 : s.chans.any (chanBad s) = true
   ·rw [if_pos h3] at h; simp at h
   ·rw [if_neg h3] at h ⊢
    obtain ⟨a, b⟩ := tasksGo_ok s.tasks 0 h
    refine ⟨a, by omega, by omega, by omega, by omega, by omega, fun c hc => ?_, fun i t ht => by simpa using b i t ht⟩
    have : chanBad s c = false := by
     cases hb : chanBad s c with
     | false => rfl
     | true => exact absurd (List.any_eq_true.2 ⟨c, hc, hb⟩) h3
    simp [chanBad] at this
    omega
structure TaskOk (s : SetV) (t : TaskV) : Prop where
 name : nameP t.name = true
 p0 : 1 ≤ t.per
 p1 : t.per ≤ 1099511627776
 d0 : 1 ≤ t.dl
 d1 : t.dl ≤ t.per
 b0 : 1 ≤ t.bud
 b1 : t.bud ≤ t.dl
 pr : (progP t.prog).2 = 0
 cost : costP t.prog ≠ 0
 kn : ∀ o ∈ t.prog, knownP s o = true
theorem taskOk {s : SetV} {i : Nat} {t : TaskV} (h : taskP s i t = 0) : TaskOk s t ∧ (s.tasks.take i).any (fun u => decide (u.name = t.name)) = false := by
 unfold taskP at h
 by_cases h1 : nameP t.name = false
 ·rw [if_pos h1] at h; omega
 rw [if_neg h1] at h
 by_cases h2 : (s.tasks.take i).any (fun u => decide (u.name = t.name)) = true
 ·rw [if_pos h2] at h; omega
 rw [if_neg h2] at h
 by_cases h3 : timesBad t = true
 ·rw [if_pos h3] at h; omega
 rw [if_neg h3] at h
 by_cases h4 : (progP t.prog).2 ≠ 0
 ·rw [if_pos h4] at h; exact absurd h h4
 rw [if_neg h4] at h
 by_cases h5 : costP t.prog = 0
 ·rw [if_pos h5] at h; omega
 rw [if_neg h5] at h
 by_cases h6 : t.prog.all (knownP s) = true
 ·simp [timesBad] at h3
  exact ⟨⟨by simpa using h1, by omega, by omega, by omega, by omega, by omega, by omega, by omega, h5, fun o ho => List.all_eq_true.1 h6 o ho⟩, by simpa using h2⟩
 ·rw [if_neg h6] at h; omega
theorem progP_ok {p : List OpV} (h : (progP p).2 = 0) : p.length ≤ 48 ∧ ∀ o ∈ p, opCheckP o = 0 := by
 unfold progP at h
 by_cases h1 : 48 < p.length
 ·rw [if_pos h1] at h; simp at h
 rw [if_neg h1] at h
 refine ⟨by omega, ?_⟩
 cases hb : badP p 0 with
 | none => exact badP_none hb
 | some q =>
   obtain ⟨i, e⟩ := q
   rw [hb] at h
   simp only [] at h
   have : ∀ (l : List OpV) (i j : Nat) (e : Int), badP l i = some (j, e) → e ≠ 0 := by
    intro l
    induction l with
    | nil => intro i j e h; simp [badP] at h
    | cons o r ih =>
      intro i j e h
      unfold badP at h
      by_cases hx : opCheckP o = 0
      ·rw [if_pos hx] at h; exact ih _ _ _ h
      ·rw [if_neg hx] at h
       simp at h
       rw [← h.2]; exact hx
   exact absurd h (this _ _ _ _ hb)
def depthOk : List OpV → Nat → Prop
 | [], _ => True
 | o :: r, d => if o.kind = 8 then d < 3 ∧ depthOk r (d + 1) else if o.kind = 9 then 0 < d ∧ depthOk r (d - 1) else depthOk r d
theorem order_depth : ∀ (l : List OpV) (s s' : Ord) (i : Nat), orderP l s i = .inr s' → depthOk l s.2.length
 | [], s, s', i, h => trivial
 | o :: r, s, s', i, h => by
   simp only [orderP] at h
   cases ht : takeP s o with
   | none => rw [ht] at h; cases h
   | some t =>
     rw [ht] at h
     have ih := order_depth r t s' (i + 1) h
     unfold takeP at ht
     rw [depthOk]
     by_cases k8 : o.kind = 8
     ·rw [if_pos k8] at ht ⊢
      split at ht
      ·rename_i h3
       simp only [Option.some.injEq] at ht
       subst ht
       exact ⟨h3, by simpa using ih⟩
      ·cases ht
     ·rw [if_neg k8] at ht ⊢
      by_cases k9 : o.kind = 9
      ·rw [if_pos k9] at ht ⊢
       split at ht
       ·cases ht
       ·rename_i q u us hs
        split at ht
        ·simp only [Option.some.injEq] at ht
         subst ht
         rw [hs]
         exact ⟨by simp, by simpa using ih⟩
        ·cases ht
      ·rw [if_neg k9] at ht ⊢
       have hs : t.2 = s.2 := by
        repeat' split at ht
        all_goals first | (cases ht; done) | (simp only [Option.some.injEq] at ht; subst ht; rfl)
       rwa [hs] at ih
def potS : List (Int × Int) → Int → Int
 | [], st => st
 | q :: qs, st => potS qs (q.2 + 32 * st)
theorem potS_ge : ∀ (os : List (Int × Int)) {a : Int}, 0 ≤ a → (∀ q ∈ os, 0 ≤ q.2) → a ≤ potS os a
 | [], a, h, _ => Int.le_refl _
 | q :: qs, a, h, hq => by
   have h1 := hq q (by simp)
   have := potS_ge qs (a := q.2 + 32 * a) (by omega) fun u hu => hq u (by simp [hu])
   simp only [potS]
   omega
def okE (n : Nat) (e : Int × Int) : Prop := 0 ≤ e.1 ∧ e.1 < n ∧ 0 ≤ e.2 ∧ e.2 < n
instance (n : Nat) (e : Int × Int) : Decidable (okE n e) := by unfold okE; infer_instance
def getI (L : List Int) (i : Int) : Int := L.getD i.toNat 0
def LeL (A B : List Int) : Prop := A.length = B.length ∧ ∀ i, i < A.length → A.getD i 0 ≤ B.getD i 0
def ClosedE (E : List (Int × Int)) (L : List Int) : Prop := ∀ e ∈ E, okE L.length e → getI L e.1 ≤ getI L e.2
structure OnWay (B : List Int) (E : List (Int × Int)) (L : List Int) : Prop where
 le : LeL B L
 least : ∀ s, LeL B s → ClosedE E s → LeL L s
 src : ∀ i, i < L.length → ∃ j, j < B.length ∧ L.getD i 0 = B.getD j 0
theorem LeL.refl (A : List Int) : LeL A A := ⟨rfl, fun _ _ => Int.le_refl _⟩
theorem LeL.trans {A B C : List Int} (x : LeL A B) (y : LeL B C) : LeL A C := ⟨x.1.trans y.1, fun i hi => Int.le_trans (x.2 i hi) (y.2 i (x.1 ▸ hi))⟩
theorem LeL.antisymm {A B : List Int} (x : LeL A B) (y : LeL B A) : A = B := by
 apply List.ext_getElem x.1
 intro i h1 h2
 have a := x.2 i h1
 have b := y.2 i h2
 simp only [List.getD, List.getElem?_eq_getElem h1, List.getElem?_eq_getElem h2, Option.getD_some] at a b
 omega
theorem OnWay.start (B : List Int) (E : List (Int × Int)) : OnWay B E B := ⟨LeL.refl B, fun s h _ => h, fun i hi => ⟨i, hi, rfl⟩⟩
theorem OnWay.lend {B : List Int} {E : List (Int × Int)} {L : List Int} (w : OnWay B E L) {e : Int × Int} (he : e ∈ E) (hok : okE L.length e) (hlt : getI L e.2 < getI L e.1) : OnWay B E (L.set e.2.toNat (getI L e.1)) := by
 obtain ⟨k1, k2, k3, k4⟩ := hok
 have hb : e.2.toNat < L.length := by omega
 have ha : e.1.toNat < L.length := by omega
 have hg : ∀ i, (L.set e.2.toNat (getI L e.1)).getD i 0 = if i = e.2.toNat then getI L e.1 else L.getD i 0 := by
  intro i
  simp only [List.getD]
  by_cases h : i = e.2.toNat
  ·subst h; rw [List.getElem?_set_self hb, if_pos rfl]; rfl
  ·rw [List.getElem?_set_ne (fun x => h x.symm), if_neg h]
 refine ⟨⟨by simpa using w.le.1, fun i hi => ?_⟩, fun s hs hc => ⟨by simpa using (w.least s hs hc).1, fun i hi => ?_⟩, fun i hi => ?_⟩
 ·rw [hg]
  have := w.le.2 i hi
  split
  ·rename_i h; subst h; unfold getI at *; omega
  ·exact this
 ·rw [hg]
  have h1 := (w.least s hs hc)
  split
  ·rename_i h; subst h
   have h2 := hc e he ⟨k1, by rw [← h1.1]; exact k2, k3, by rw [← h1.1]; exact k4⟩
   have h3 := h1.2 e.1.toNat ha
   unfold getI at *; omega
  ·exact h1.2 i (by simpa using hi)
 ·rw [hg]
  split
  ·exact w.src e.1.toNat ha
  ·exact w.src i (by simpa using hi)
def far (M : Int) (L : List Int) : Nat := (L.map fun x => (M - x).toNat).sum
theorem far_set {M : Int} : ∀ {L : List Int} {i : Nat} {v : Int}, i < L.length → L.getD i 0 < v → v ≤ M → far M (L.set i v) < far M L
 | [], i, v, h, _, _ => by simp at h
 | x :: r, 0, v, _, h1, h2 => by
   simp only [far, List.set_cons_zero, List.map_cons, List.sum_cons]
   simp at h1
   omega
 | x :: r, i + 1, v, h, h1, h2 => by
   have := far_set (M := M) (L := r) (i := i) (v := v) (by simpa using h) (by simpa using h1) h2
   simp only [far, List.set_cons_succ, List.map_cons, List.sum_cons] at this ⊢
   omega
def top (B : List Int) : Int := B.foldr max 0
theorem le_top : ∀ {B : List Int} {i : Nat}, i < B.length → B.getD i 0 ≤ top B
 | [], i, h => by simp at h
 | x :: r, 0, _ => by simp [top]; omega
 | x :: r, i + 1, h => by
   have := le_top (B := r) (i := i) (by simpa using h)
   simp only [top, List.foldr_cons] at this ⊢
   simp only [List.getD_cons_succ]
   omega
def IsPrios (B : List Int) (E : List (Int × Int)) (r : List Int) : Prop := OnWay B E r ∧ ClosedE E r
theorem IsPrios.unique {B : List Int} {E : List (Int × Int)} {r s : List Int} (x : IsPrios B E r) (y : IsPrios B E s) : r = s :=
 (x.1.least s y.1.le y.2).antisymm (y.1.least r x.1.le x.2)
def badN (x : Int) : Bool := decide (x < -1) || decide (12 < x)
def checkL : Nat → List (List Int) → Int × Int
 | _, [] => (0, 0)
 | i, r :: rs => if 64 < r.length then ((i : Int), 18) else if r.any badN = true then ((i : Int), 1) else checkL (i + 1) rs
def checkS (l : List (List Int)) : Int × Int := if 4096 < l.length then (0, 18) else checkL 0 l
end Go.Cl
