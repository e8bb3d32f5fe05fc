/-
  Texts laid together: AOp AOpR AOpO AOpK AOpU.
-/
import Derived.Test.YtlndogibbgibgaaGreatDoorM4
import Derived.Test.YtlndogibbgibgaaGreatDoorM5
import Derived.Test.YtlndogibbgibgaaGreatDoorS
import Derived.Test.YtlndogibbgibgaaGreatDoorM7
namespace Go.Cl
open Go
set_option linter.unusedSimpArgs false
set_option linter.unusedVariables false
variable {p : PP}
def caseC : Cod Case where
 n := 3
 rep _ _ c x := c = [.bool x.send, .int .i64 x.chan, .int .i64 x.v]
 len e := by subst e; rfl
 flat e := by subst e; rfl
 mono e _ := e
 keep e _ _ := e
 lt e := e
def opC : Cod OpV where
 n := 5
 rep h P c x := ∃ cv, c = [.int .i64 x.kind, .int .i64 x.n, .int .i64 x.v, .int .i64 x.wait, cv] ∧ Sl caseC h P cv x.cases
 len := by rintro h P c x ⟨cv, rfl, _⟩; rfl
 flat := by rintro h P c x ⟨cv, rfl, s⟩; simp only [List.all_cons, List.all_nil, s.scalar]; rfl
 mono := by rintro h P Q c x ⟨cv, rfl, s⟩ k; exact ⟨cv, rfl, s.mono k⟩
 keep := by rintro h h' P S c x ⟨cv, rfl, s⟩ k hS; exact ⟨cv, rfl, s.keep k hS⟩
 lt := by rintro h P c x ⟨cv, rfl, s⟩; exact ⟨cv, rfl, s.lt⟩
def EqInv (v0 v1 : CV) (α : Type) (a b : List α) (h : Heap) (m : Nat) (e : Env) (h' : Heap) : Prop :=
 ∃ i : Nat, i ≤ a.length ∧ m = a.length - i ∧ e = [(0, v0), (1, v1), (12, .int .i64 a.length), (13, .int .i64 i)] ∧ h' = h ∧ a.take i = b.take i
theorem eqStep {α : Type} {a b : List α} {i : Nat} (h : a.take i = b.take i) (ha : i < a.length) (hb : i < b.length) (he : a[i] = b[i]) : a.take (i + 1) = b.take (i + 1) := by
 rw [← List.take_append_getElem ha, ← List.take_append_getElem hb, h, he]
theorem eqDone {α : Type} {a b : List α} (h : a.take a.length = b.take a.length) (hl : a.length = b.length) : a = b := by
 rw [List.take_length, hl, List.take_length] at h; exact h
theorem intsEq_spec {h : Heap} {v0 v1 : CV} {a b : List Int} {P Q : Nat → Prop} (hp : p.Pg 61 = some S.f61) (hq : p.pr 61 = none) (s0 : Sl (.int .i64) h P v0 a) (s1 : Sl (.int .i64) h Q v1 b) (hb : a.length ≤ big) :
  WF p 61 [v0, v1] h fun r h' => r = .bool (decide (a = b)) ∧ h' = h := by
 refine WF_of hp hq ?_
 show W p S.b61 _ _ (retQ [.t 4] _)
 unfold S.b61
 have n0 := s0.len (by decide)
 have n1 := s1.len (by decide)
 by_cases hl : a.length = b.length
 ·have hl' : (a.length : Int) = b.length := by omega
  simp [n0, n1, hl']
  rw [← hl']
  refine W_loop (EqInv v0 v1 Int a b h) ?_ a.length ⟨0, by omega, by omega, rfl, rfl, rfl⟩
  rintro m e h' ⟨i, hi, rfl, rfl, rfl, ht⟩
  by_cases hia : i = a.length
  ·subst hia
   have := eqDone ht hl
   simp [this]
  ·have hlt : i < a.length := by omega
   have hlt' : (i : Int) < a.length := by omega
   obtain ⟨b0, o0, x1, x2, x3⟩ := readI_idx (k' := .i64) s0.ints hlt
   obtain ⟨b1, o1, y1, y2, y3⟩ := readI_idx (k' := .i64) s1.ints (i := i) (by omega)
   have hw : IntKind.i64.wrap ((i : Int) + 1) = ((i + 1 : Nat) : Int) := by
    simp [big] at hb
    rw [w64 (by omega) (by omega)]; omega
   have hlb : i < b.length := by omega
   by_cases he : a[i] = b[i]
   ·simp [hlt', x1, x3, y1, y3, he, hw]
    exact ⟨a.length - (i + 1), by omega, i + 1, by omega, rfl, rfl, rfl, eqStep ht hlt hlb he⟩
   ·have hne : ¬ a = b := fun e => he (by subst e; rfl)
    simp [hlt', x1, x3, y1, y3, he, hne]
 ·have hl' : ¬ (a.length : Int) = b.length := by omega
  have hne : ¬ a = b := fun e => hl (by rw [e])
  simp [n0, n1, hl', hne]
set_option maxHeartbeats 4000000
structure KdV where
 word : Wd
 least : Int
 most : Int
 wait : Bool
 more : Bool
 deriving Inhabited
def kdL (x : KdV) : List CV := [.str x.word, .int .i64 x.least, .int .i64 x.most, .bool x.wait, .bool x.more]
def kdC : Cod KdV where
 n := 5
 rep _ _ c x := c = kdL x
 len e := by subst e; rfl
 flat e := by subst e; rfl
 mono e _ := e
 keep e _ _ := e
 lt e := e
def kindsL : List KdV := [⟨[], 0, 0, false, false⟩, ⟨wRun, 1, 1000, false, false⟩, ⟨wLock, 0, 7, false, false⟩, ⟨wUnlock, 0, 7, false, false⟩, ⟨wSend, 0, 7, true, false⟩, ⟨wRecv, 0, 7, true, false⟩, ⟨wClose, 0, 7, false, false⟩, ⟨wSelect, 0, 0, true, true⟩, ⟨wLoop, 1, 32, false, false⟩, ⟨wEnd, 0, 0, false, false⟩]
theorem kind_at {i : Nat} (h0 : 1 ≤ i) (h1 : i < 10) : kindsL[i]'h1 = ⟨wordOf i, leastOf i, mostOf i, isWait i, decide (i = 7)⟩ := by
 have : i = 1 ∨ i = 2 ∨ i = 3 ∨ i = 4 ∨ i = 5 ∨ i = 6 ∨ i = 7 ∨ i = 8 ∨ i = 9 := by omega
 rcases this with rfl | rfl | rfl | rfl | rfl | rfl | rfl | rfl | rfl <;> rfl
theorem kinds_spec (lp : LP p) {h : Heap} : WF p 224 [] h fun r h' => ∃ v, r = v ∧ Sl kdC h' (From h) v kindsL ∧ Keep NoneOf h h' := by
 refine WF_of (by rw [lp.pg]; exact S.pg224) (lp.no ⟨rfl, rfl⟩) ?_
 show W p S.b224 _ _ (retQ [.t 0] _)
 unfold S.b224
 simp [fillC, splice, CV.cells]
 refine ⟨?_, Keep.app _ _ _⟩
 exact Sl.fresh (Rows.of_flat kdL kindsL fun x _ => rfl) rfl
theorem kind_row {h : Heap} {P : Nat → Prop} {v : CV} {k : Int} (s : Sl kdC h P v kindsL) (h0 : 1 ≤ k) (h9 : k ≤ 9) :
  ∃ b o, idxAddrV 5 v (.int .i64 k) = some (.ptr b o) ∧ loadAt h b o (some 5) = some (.agg (kdL ⟨wordOf k, leastOf k, mostOf k, isWait k, decide (k = 7)⟩)) ∧ ∀ j, j < 5 → loadAt h b (o + j) none = (kdL ⟨wordOf k, leastOf k, mostOf k, isWait k, decide (k = 7)⟩)[j]? := by
 obtain ⟨i, hi⟩ := Int.eq_ofNat_of_zero_le (by omega : 0 ≤ k)
 have hi9 : i < kindsL.length := by show i < 10; omega
 obtain ⟨b0, o0, row, x1, x2, x3, x4⟩ := s.row (k := .i64) (by decide) hi9
 rw [kind_at (by omega) hi9, ← hi] at x4
 have x4 : row = kdL ⟨wordOf k, leastOf k, mostOf k, isWait k, decide (i = 7)⟩ := x4
 rw [show decide (i = 7) = decide (k = 7) by by_cases h7 : i = 7 <;> simp [h7, hi] <;> omega] at x4
 simp only [kdC] at x1 x2 x3
 rw [← hi] at x1
 subst x4
 exact ⟨b0, o0, x1, x2, x3⟩
def caL (c : Case) : List CV := [.bool c.send, .int .i64 c.chan, .int .i64 c.v]
theorem caL_0 (c : Case) : (caL c)[0]? = some (.bool c.send) := rfl
theorem caL_1 (c : Case) : (caL c)[1]? = some (.int .i64 c.chan) := rfl
theorem caL_2 (c : Case) : (caL c)[2]? = some (.int .i64 c.v) := rfl
theorem caseIs_spec (lp : LP p) {h : Heap} {b : Nat} {c x : Case} (g : h[b]? = some (.arr (caL c) .tight)) : WF p 234 [.agg (caL x), .ptr b 0] h fun r h' => r = .bool (decide (x.chan = c.chan)) ∧ Keep NoneOf h h' := by
 refine WF_of (by rw [lp.pg]; exact S.pg234) (lp.no ⟨rfl, rfl⟩) ?_
 show W p S.b234 _ _ (retQ [.t 3] _)
 unfold S.b234
 have k : Keep NoneOf h (h ++ [.arr (caL x) .tight]) := Keep.app _ _ _
 have l0 := ld (k.at g id)
 have h0 : ∀ o, loadAt (h ++ [.arr (caL x) .tight]) h.length o none = (caL x)[o]? := fun o => one0 o
 simp [h0, l0, caL_1]
 exact k
def CiI (v f : CV) (l : List Case) (ch : Int) (h : Heap) (m : Nat) (e : Env) (h' : Heap) : Prop :=
 ∃ i : Nat, i ≤ l.length ∧ m = l.length - i ∧ e = [(0, v), (1, f), (7, .int .i64 l.length), (8, .int .i64 i)] ∧ Keep NoneOf h h' ∧ (l.take i).any (fun x => decide (x.chan = ch)) = false
theorem caseIndex_spec (lp : LP p) {h : Heap} {b : Nat} {c : Case} {v : CV} {l : List Case} {P : Nat → Prop} (g : h[b]? = some (.arr (caL c) .tight)) (s : Sl caseC h P v l) (hl : l.length ≤ big) :
  WF p 238 [v, .fn 234 [.ptr b 0]] h fun r h' => (∃ j : Int, r = .int .i64 j ∧ decide (0 ≤ j) = l.any (fun x => decide (x.chan = c.chan))) ∧ Keep NoneOf h h' := by
 refine WF_of (by rw [lp.pg]; exact S.pg238) (lp.no ⟨rfl, rfl⟩) ?_
 show W p S.b238 _ _ (retQ [.t 4] _)
 unfold S.b238
 have n0 := s.len (by decide)
 simp [n0]
 refine W_loop (CiI v (.fn 234 [.ptr b 0]) l c.chan h) ?_ l.length ⟨0, by omega, by omega, rfl, Keep.refl _ _, by simp⟩
 rintro m e h1 ⟨i, hi, rfl, rfl, k1, hno⟩
 by_cases hie : i = l.length
 ·subst hie
  rw [List.take_length] at hno
  rw [hno]
  simp
  exact k1
 ·have hlt : i < l.length := by omega
  have hlt' : (i : Int) < l.length := by omega
  obtain ⟨b0, o0, row, x1, x2, x3, x4⟩ := (s.on k1).row (k := .i64) (by decide) hlt
  have x4 : row = caL l[i] := x4
  simp only [caseC] at x1 x2
  rw [x4] at x2
  have hw : IntKind.i64.wrap ((i : Int) + 1) = ((i + 1 : Nat) : Int) := by
   simp [big] at hl
   rw [w64 (by omega) (by omega)]; omega
  simp [hlt', x1, x2]
  refine (caseIs_spec lp (k1.at g id)).mono ?_
  rintro r h2 ⟨rfl, k2⟩
  by_cases hq : l[i].chan = c.chan
  ·have : l.any (fun x => decide (x.chan = c.chan)) = true := by
    rw [List.any_eq_true]; exact ⟨l[i], List.getElem_mem hlt, by simpa using hq⟩
   rw [this]
   simp [hq]
   exact k1.trans k2
  ·simp [hq, hw]
   refine ⟨l.length - (i + 1), by omega, i + 1, by omega, rfl, rfl, k1.trans k2, ?_⟩
   rw [← List.take_append_getElem hlt, List.any_append, hno]
   simp [hq]
theorem caseHas_spec (lp : LP p) {h : Heap} {b : Nat} {c : Case} {v : CV} {l : List Case} {P : Nat → Prop} (g : h[b]? = some (.arr (caL c) .tight)) (s : Sl caseC h P v l) (hl : l.length ≤ big) :
  WF p 235 [v, .fn 234 [.ptr b 0]] h fun r h' => r = .bool (l.any (fun x => decide (x.chan = c.chan))) ∧ Keep NoneOf h h' := by
 refine WF_of (by rw [lp.pg]; exact S.pg235) (lp.no ⟨rfl, rfl⟩) ?_
 show W p S.b235 _ _ (retQ [.t 4] _)
 unfold S.b235
 simp
 refine (caseIndex_spec lp g s hl).mono ?_
 rintro r h1 ⟨⟨j, rfl, hj⟩, k1⟩
 rw [← hj]
 simp
 exact k1
def CaI (v : CV) (l : List Case) (h : Heap) (m : Nat) (e : Env) (h' : Heap) : Prop :=
 ∃ i : Nat, i ≤ l.length ∧ m = l.length - i ∧ e = [(0, v), (13, v), (14, .int .i64 l.length), (15, .int .i64 i)] ∧ Keep NoneOf h h' ∧ casesGo [] l = casesGo (l.take i) (l.drop i)
theorem cases_spec (lp : LP p) {h : Heap} {v : CV} {l : List Case} {P : Nat → Prop} (s : Sl caseC h P v l) :
  WF p 225 [v] h fun r h' => r = .int .i64 (casesP l) ∧ Keep NoneOf h h' := by
 refine WF_of (by rw [lp.pg]; exact S.pg225) (lp.no ⟨rfl, rfl⟩) ?_
 show W p S.b225 _ _ (retQ [.t 2] _)
 unfold S.b225
 have n0 := s.len (by decide)
 by_cases h1 : (l.length : Int) < 1
 ·rw [show casesP l = 18 by unfold casesP; rw [if_pos (.inl (by omega))]]
  have h1' : l.length = 0 := by omega
  simp [n0, h1, h1']
  exact Keep.refl _ _
 by_cases h4 : (4 : Int) < l.length
 ·rw [show casesP l = 18 by unfold casesP; rw [if_pos (.inr (by omega))]]
  have h1' : ¬ l.length = 0 := by omega
  simp [n0, h1, h1', h4]
  exact Keep.refl _ _
 ·rw [show casesP l = casesGo [] l by unfold casesP; rw [if_neg (by omega)]]
  have h1' : ¬ l.length = 0 := by omega
  simp [n0, h1, h1', h4]
  refine W_loop (CaI v l h) ?_ l.length ⟨0, by omega, by omega, rfl, Keep.refl _ _, by simp⟩
  rintro m e h1 ⟨i, hi, rfl, rfl, k1, hgo⟩
  rw [hgo]
  by_cases hie : i = l.length
  ·subst hie
   rw [List.drop_length]
   simp [casesGo]
   exact k1
  ·have hlt : i < l.length := by omega
   have hlt' : (i : Int) < l.length := by omega
   have s1 := s.on k1
   obtain ⟨b0, o0, row, x1, x2, x3, x4⟩ := s1.row (k := .i64) (by decide) hlt
   have x4 : row = caL l[i] := x4
   simp only [caseC] at x1 x2
   rw [x4] at x2
   have hw : IntKind.i64.wrap ((i : Int) + 1) = ((i + 1 : Nat) : Int) := by rw [w64 (by omega) (by omega)]; omega
   rw [List.drop_eq_getElem_cons hlt, casesGo, List.take_append_getElem hlt]
   rw [List.drop_eq_getElem_cons hlt, casesGo, List.take_append_getElem hlt] at hgo
   generalize hC : l[i] = C at *
   have st := store_new (h := h1) (z := [.bool false, .int .i64 0, .int .i64 0]) (row := caL C) rfl rfl
   have hf : fits (some 3) (.agg (caL C)) = true := rfl
   have l0 : ∀ o, loadAt (h1 ++ [.arr (caL C) .tight]) h1.length o none = (caL C)[o]? := fun o => one0 o
   have kap : Keep NoneOf h1 (h1 ++ [.arr (caL C) .tight]) := Keep.app _ _ _
   have g : (h1 ++ [.arr (caL C) .tight])[h1.length]? = some (.arr (caL C) .tight) := by simp
   obtain ⟨w, y1, y2⟩ := (s1.on kap).cut (k := .i64) (m := i) (by decide) (by omega)
   have y1 : slSl (h1 ++ [.arr (caL C) .tight]) 3 v none (some (.int .i64 i)) = some (w, h1 ++ [.arr (caL C) .tight]) := y1
   by_cases c0 : C.chan < 0
   ·have hb : caseBad C = true := by simp [caseBad, c0]
    simp [hlt', x1, x2, hf, st, l0, caL_0, caL_1, caL_2, c0, hb]
    exact k1.trans kap
   by_cases c1 : 8 ≤ C.chan
   ·have hb : caseBad C = true := by simp [caseBad, c1]
    simp [hlt', x1, x2, hf, st, l0, caL_0, caL_1, caL_2, c0, c1, hb]
    exact k1.trans kap
   by_cases c2 : C.send = false ∧ ¬ C.v = 0
   ·have hb : caseBad C = true := by simp [caseBad, c2.1, c2.2]
    simp [hlt', x1, x2, hf, st, l0, caL_0, caL_1, caL_2, c0, c1, c2.1, c2.2, hb]
    exact k1.trans kap
   have hb : caseBad C = false := by
    unfold caseBad
    rw [decide_eq_false c0, decide_eq_false c1]
    by_cases c3 : C.send = false
    ·have : C.v = 0 := by
      by_cases c4 : C.v = 0
      ·exact c4
      ·exact absurd ⟨c3, c4⟩ c2
     simp [this]
    ·simp [c3]
   have rest : ∀ {K : CV → Heap → Prop}, (∀ h', Keep NoneOf h h' → K (.bool ((l.take i).any (fun x => decide (x.chan = C.chan)))) h') → WF p 235 [w, .fn 234 [.ptr h1.length 0]] (h1 ++ [.arr (caL C) .tight]) K := fun kk =>
    (caseHas_spec lp g y2 (by simp [big]; omega)).mono fun r h' ⟨e1, e2⟩ => e1 ▸ kk h' ((k1.trans kap).trans e2)
   rw [hb] at hgo
   simp only [Bool.false_eq_true, if_false] at hgo
   rw [← hgo]
   by_cases c3 : C.send = true
   ·simp [hlt', x1, x2, hf, st, l0, caL_0, caL_1, caL_2, c0, c1, c3, y1]
    refine rest ?_
    intro h' k2
    by_cases hq : (l.take i).any (fun x => decide (x.chan = C.chan)) = true
    ·rw [hq] at hgo
     rw [hq, hgo]
     simp
     exact ⟨hb, k2⟩
    ·rw [Bool.not_eq_true] at hq
     rw [hq] at hgo
     rw [hq]
     simp [hw]
     exact ⟨l.length - (i + 1), by omega, i + 1, by omega, rfl, rfl, k2, hgo⟩
   ·have c4 : C.v = 0 := by
     by_cases c4 : C.v = 0
     ·exact c4
     ·exact absurd ⟨by simpa using c3, c4⟩ c2
    simp [hlt', x1, x2, hf, st, l0, caL_0, caL_1, caL_2, c0, c1, c3, c4, y1]
    refine rest ?_
    intro h' k2
    by_cases hq : (l.take i).any (fun x => decide (x.chan = C.chan)) = true
    ·rw [hq] at hgo
     rw [hq, hgo]
     simp
     exact ⟨hb, k2⟩
    ·rw [Bool.not_eq_true] at hq
     rw [hq] at hgo
     rw [hq]
     simp [hw]
     exact ⟨l.length - (i + 1), by omega, i + 1, by omega, rfl, rfl, k2, hgo⟩
theorem opWaits_spec (lp : LP p) {h : Heap} {c : List CV} {x : OpV} {P : Nat → Prop} (r0 : opC.rep h P c x) : WF p 223 [.agg c] h fun r h' => r = .bool (waitsP x) ∧ Keep NoneOf h h' := by
 obtain ⟨cv, rfl, s0⟩ := r0
 refine WF_of (by rw [lp.pg]; exact S.pg223) (lp.no ⟨rfl, rfl⟩) ?_
 show W p S.b223 _ _ (retQ [.t 2] _)
 unfold S.b223 waitsP isWait
 obtain ⟨a1, a2, a3, a4, a5⟩ := x
 have kap : ∀ g, Keep NoneOf h (h ++ g) := fun g => Keep.app _ _ _
 by_cases h4 : a1 = 4
 ·subst h4
  by_cases hw : a4 = 0
  all_goals simp [CV.cells, one0, hw]; exact kap _
 by_cases h5 : a1 = 5
 ·subst h5
  by_cases hw : a4 = 0
  all_goals simp [CV.cells, one0, hw]; exact kap _
 by_cases h7 : a1 = 7
 ·subst h7
  by_cases hw : a4 = 0
  all_goals simp [CV.cells, one0, hw]; exact kap _
 ·simp [CV.cells, one0, h4, h5, h7]; exact kap _
theorem opCheck_spec (lp : LP p) {h : Heap} {c : List CV} {x : OpV} {P : Nat → Prop} (r0 : opC.rep h P c x) : WF p 219 [.agg c] h fun r h' => r = .int .i64 (opCheckP x) ∧ Keep NoneOf h h' := by
 obtain ⟨cv, hC, s0⟩ := r0
 refine WF_of (by rw [lp.pg]; exact S.pg219) (lp.no ⟨rfl, rfl⟩) ?_
 show W p S.b219 _ _ (retQ [.t 2] _)
 unfold S.b219
 have c0 : c[0]? = some (.int .i64 x.kind) := by subst hC; rfl
 have c1 : c[1]? = some (.int .i64 x.n) := by subst hC; rfl
 have c2 : c[2]? = some (.int .i64 x.v) := by subst hC; rfl
 have c3 : c[3]? = some (.int .i64 x.wait) := by subst hC; rfl
 have c4 : c[4]? = some cv := by subst hC; rfl
 by_cases k0 : x.kind < 1
 ·rw [show opCheckP x = 3 by unfold opCheckP; rw [if_pos (.inl k0)]]
  simp [CV.cells, one0, c0, k0]
  exact Keep.app _ _ _
 by_cases k9 : 9 < x.kind
 ·rw [show opCheckP x = 3 by unfold opCheckP; rw [if_pos (.inr k9)]]
  simp [CV.cells, one0, c0, k0, k9]
  exact Keep.app _ _ _
 clear hC
 simp [CV.cells, one0, two0, c0, k0, k9]
 refine WO_re_n ?_
 simp
 refine (kinds_spec lp).mono ?_
 rintro r h1 ⟨v, rfl, sl, k1⟩
 have g0 := k1.at (b := h.length) (o := .arr c .tight) (by simp) id
 have g1 := k1.at (b := h.length + 1) (o := .arr [.str [], .int .i64 0, .int .i64 0, .bool false, .bool false] .tight) (by simp) id
 have l0 := ld g0
 refine ⟨fun c => by simp [recheckB, wanted, Env.get, cls, evOp, Opd.ev, withH, CV.eqb, l0, c0], ?_⟩
 obtain ⟨b0, o0, x1, x2, _⟩ := kind_row (k := x.kind) sl (by omega) (by omega)
 have hk7 : (decide (x.kind = 7) : Bool) = decide (x.kind = 7) := rfl
 have hchk : opCheckP x = if x.n < leastOf x.kind ∨ mostOf x.kind < x.n ∨ (x.kind ≠ 4 ∧ x.v ≠ 0) then 1
  else if (isWait x.kind = false ∧ x.wait ≠ 0) ∨ x.wait < -1 ∨ 1000 < x.wait then 1
  else if decide (x.kind = 7) = true then casesP x.cases
  else if x.cases ≠ [] then 1 else 0 := by
  unfold opCheckP
  rw [if_neg (by omega)]
  simp only [decide_eq_true_eq]
 rw [hchk]
 clear hchk hk7
 generalize hT : leastOf x.kind = lst at *
 generalize hM : mostOf x.kind = mst at *
 generalize hW : isWait x.kind = wt at *
 generalize hE : decide (x.kind = 7) = mo at *
 obtain ⟨row, hr⟩ : ∃ row, row = kdL ⟨wordOf x.kind, lst, mst, wt, mo⟩ := ⟨_, rfl⟩
 rw [← hr] at x2
 have hfit : fits (some 5) (.agg row) = true := by rw [hr]; rfl
 have st := sto g1 (vs := row) (by rw [hr]; rfl) (by rw [hr]; rfl)
 have l1 := ld (get_set_self (o := .arr row .tight) (lt_of_get g1))
 have ke : Keep (fun b => b = h.length + 1) h1 (h1.set (h.length + 1) (.arr row .tight)) := Keep.set _ _ rfl
 have l0' := ld (ke.at g0 (by simp))
 have kk : Keep NoneOf h (h1.set (h.length + 1) (.arr row .tight)) := ((Keep.app _ _ _).trans k1).then ke fun b hb e => by omega
 have r1 : row[1]? = some (.int .i64 lst) := by rw [hr]; rfl
 have r2 : row[2]? = some (.int .i64 mst) := by rw [hr]; rfl
 have r3 : row[3]? = some (.bool wt) := by rw [hr]; rfl
 have r4 : row[4]? = some (.bool mo) := by rw [hr]; rfl
 clear hr
 generalize hH : h1.set (h.length + 1) (.arr row .tight) = H at *
 simp [x1, x2, CV.cells, hfit, st, hH, l0', l1, c0, c1, c2, c3, c4, r1, r2, r3, r4]
 refine WO_cut (fun e' => e'.get 1 = some (.ptr h.length 0) ∧ e'.get 3 = some (.ptr (h.length + 1) 0) ∧ e'.get 17 = some (.bool (decide (x.n < lst ∨ mst < x.n ∨ (x.kind ≠ 4 ∧ x.v ≠ 0))))) ?_ ?_
 ·by_cases a1 : x.n < lst
  ·simp [a1, l0', l1, c0, c1, c2, c3, c4, r1, r2, r3, r4]
  by_cases a2 : mst < x.n
  ·simp [a1, a2, l0', l1, c0, c1, c2, c3, c4, r1, r2, r3, r4]
  by_cases a3 : x.kind = 4
  ·simp [a1, a2, a3, l0', l1, c0, c1, c2, c3, c4, r1, r2, r3, r4]
  by_cases a4 : x.v = 0
  all_goals simp [a1, a2, a3, a4, l0', l1, c0, c1, c2, c3, c4, r1, r2, r3, r4]
 rintro e' ⟨q1, q2, q3⟩
 by_cases B1 : x.n < lst ∨ mst < x.n ∨ (x.kind ≠ 4 ∧ x.v ≠ 0)
 ·rw [if_pos B1]
  rw [decide_eq_true B1] at q3
  simp [q1, q2, q3]
  exact kk
 rw [if_neg B1]
 rw [decide_eq_false B1] at q3
 clear B1
 simp [q1, q2, q3, l0', l1, c0, c1, c2, c3, c4, r1, r2, r3, r4]
 clear q1 q2 q3 e'
 refine WO_cut (fun e' => e'.get 1 = some (.ptr h.length 0) ∧ e'.get 3 = some (.ptr (h.length + 1) 0) ∧ e'.get 40 = some (.bool (decide ((wt = false ∧ x.wait ≠ 0) ∨ x.wait < -1 ∨ 1000 < x.wait)))) ?_ ?_
 ·by_cases a1 : x.wait = 0
  ·cases wt <;> simp [a1, l0', l1, c0, c1, c2, c3, c4, r1, r2, r3, r4]
  cases wt with
  | false => simp [a1, l0', l1, c0, c1, c2, c3, c4, r1, r2, r3, r4]
  | true =>
    by_cases a2 : x.wait < -1
    ·simp [a1, a2, l0', l1, c0, c1, c2, c3, c4, r1, r2, r3, r4]
    by_cases a3 : 1000 < x.wait
    all_goals simp [a1, a2, a3, l0', l1, c0, c1, c2, c3, c4, r1, r2, r3, r4]
 rintro e' ⟨q1, q2, q3⟩
 by_cases B1 : (wt = false ∧ x.wait ≠ 0) ∨ x.wait < -1 ∨ 1000 < x.wait
 ·rw [if_pos B1]
  rw [decide_eq_true B1] at q3
  simp [q1, q2, q3]
  exact kk
 rw [if_neg B1]
 rw [decide_eq_false B1] at q3
 clear B1
 have sH := s0.on kk
 have nH := sH.len (by decide)
 cases mo with
 | true =>
   simp [q1, q2, q3, l0', l1, c0, c1, c2, c3, c4, r1, r2, r3, r4]
   refine (cases_spec lp sH).mono ?_
   rintro r h2 ⟨rfl, k2⟩
   simp
   exact kk.trans k2
 | false =>
   by_cases hx : x.cases = []
   ·have hx' : x.cases.length = 0 := by rw [hx]; rfl
    simp [q1, q2, q3, l0', l1, c0, c1, c2, c3, c4, r1, r2, r3, r4, nH, hx, hx']
    exact kk
   ·have hx' : 0 < x.cases.length := List.length_pos_iff.2 hx
    have hx2 : (0 : Int) < x.cases.length := by omega
    simp [q1, q2, q3, l0', l1, c0, c1, c2, c3, c4, r1, r2, r3, r4, nH, hx, hx', hx2]
    exact kk
set_option maxHeartbeats 1000000
structure RcH (h : Heap) (c : List CV) (h' : Heap) : Prop where
 k : Keep NoneOf h h'
 g : h'[h.length]? = some (.arr c .tight)
end Go.Cl
