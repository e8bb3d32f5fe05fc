/-
  Texts laid together: ATextW ATextL ATextK ATextX ATextN.
-/
import Derived.Test.YtdbakplieenefaaGreatDoorME
import Derived.Test.YtdbakplieenefaaGreatDoorM8
import Derived.Test.YtdbakplieenefaaGreatDoorM5
namespace Go.Cl
open Go
set_option linter.unusedSimpArgs false
set_option linter.unusedVariables false
set_option maxHeartbeats 2000000
variable {p : PP}
theorem setGo_sm : ∀ (ls : List Wd) (i : Nat) (s : SetV), s.Sm → (∀ l ∈ ls, l.length ≤ 100000) → (setGo i ls s).1.Sm
 | [], i, s, m, _ => by
   rw [setGo]
   split
   ·exact m
   ·exact set0_sm
 | l :: ls, i, s, m, h => by
   rw [setGo]
   split
   ·exact setGo_sm ls _ _ (lineSR_sm m (h l (by simp))) fun x hx => h x (by simp [hx])
   ·exact set0_sm
theorem setR_sm {s : Wd} (h : ∀ ls, linesP s = some ls → ∀ l ∈ ls, l.length ≤ 100000) : (setR s).1.Sm := by
 unfold setR
 cases hl : linesP s with
 | none => exact set0_sm
 | some ls =>
   cases ls with
   | nil => exact set0_sm
   | cons l ls => exact setGo_sm _ _ _ set0_sm fun x hx => h _ hl x hx
theorem SetV.Sm.Fit {s : SetV} (m : s.Sm) : s.Fit := ⟨by have := m.c; omega, by have := m.t; omega, fun t ht => ⟨by have := (m.p t ht).1; omega, fun o ho => ((m.p t ht).2.2 o ho).l⟩⟩
structure FewFacts (x : SetV) : Prop where
 sane : x.Sane
 fit : x.Fit
 fine : x.fine
def uA : OpV := ⟨1, 1, 0, 0, []⟩
def uB : OpV := ⟨2, 0, 0, 0, []⟩
def uC : OpV := ⟨3, 0, 0, 0, []⟩
def uD : OpV := ⟨1, 4, 0, 0, []⟩
def oL (x : OpV) : List CV := [.int .i64 x.kind, .int .i64 x.n, .int .i64 x.v, .int .i64 x.wait, .nils]
def twA : TaskV := ⟨[102, 97, 115, 116], 10, 8, 3, [uA, uB, uA, uC]⟩
def twB : TaskV := ⟨[115, 108, 111, 119], 20, 20, 6, [uB, uD, uC, uA]⟩
def twoS : SetV := ⟨1, [], [twA, twB]⟩
theorem op_rows {h : Heap} {P : Nat → Prop} : ∀ (l : List OpV), (∀ o ∈ l, o.cases = []) → Rows opC h P (l.flatMap oL) l
 | [], _ => Rows.nil
 | o :: l, hl => by
   rw [List.flatMap_cons, show o :: l = [o] ++ l from rfl]
   refine Rows.append (Rows.one (e := opC) (c := oL o) ⟨.nils, rfl, ?_⟩) (op_rows l fun x hx => hl x (by simp [hx]))
   rw [hl o (by simp)]
   exact Sl.nil
theorem own_sl {α : Type} {e : Cod α} {h : Heap} {P : Nat → Prop} {b n : Nat} {l : List α} {cells : List CV} (g : h[b]? = some (.arr cells .tight)) (r : Rows e h P cells l) (hn : n = l.length) (hb : P b) : Sl e h P (.sl b 0 n n) l := by
 subst hn
 have m : Mine h e.n (.sl b 0 l.length l.length) cells := .inr ⟨b, l.length, .tight, rfl, r.1, .inl rfl, g⟩
 exact ⟨cells, m.read, ⟨m.ok, fun x hx => by simp [CV.blk] at hx; subst hx; exact hb⟩, r⟩
theorem two_spec (lp : LP p) {h : Heap} : WF p 52 [] h fun r h' => Keep NoneOf h h' ∧ ∃ d, r = .agg d ∧ setC.rep h' (From h) d twoS := by
 refine WF_of (by rw [lp.pg]; exact S.pg52) (lp.no ⟨rfl, rfl⟩) ?_
 show W p S.b52 _ _ (retQ [.cell (some 3) 0] _)
 unfold S.b52
 have hca : ∀ l, (CV.agg l).cells = l := fun _ => rfl
 have hlt : h.length < h.length + 3 + 2 := by omega
 simp [fillC, splice, hca, fits, storeAt, loadAt, List.getElem?_append, List.set_append, hlt]
 refine ⟨Keep.app _ _ _, .nils, .sl (h.length + 5) 0 2 2, rfl, Sl.nil, ?_⟩
 refine own_sl (cells := tkL twA (.sl (h.length + 1) 0 4 4) ++ tkL twB (.sl (h.length + 3) 0 4 4)) (by simp [tkL, twA, twB]) ?_ rfl (by simp only [From]; omega)
 refine Rows.append (Rows.one (e := taskC) ⟨_, rfl, ?_⟩) (Rows.one (e := taskC) ⟨_, rfl, ?_⟩)
 ·exact own_sl (cells := [uA, uB, uA, uC].flatMap oL) (by simp [oL, uA, uB, uC]) (op_rows _ (by simp [uA, uB, uC])) rfl (by simp only [From]; omega)
 ·exact own_sl (cells := [uB, uD, uC, uA].flatMap oL) (by simp [oL, uA, uB, uC, uD]) (op_rows _ (by simp [uA, uB, uC, uD])) rfl (by simp only [From]; omega)
def txt0 : Wd := [108, 111, 99, 107, 115, 32, 49, 10, 116, 97, 115, 107, 32, 102, 97, 115, 116, 32, 49, 48, 32, 56, 32, 51, 10, 114, 117, 110, 32, 49, 10, 108, 111, 99, 107, 32, 48, 10, 114, 117, 110, 32, 49, 10, 117, 110, 108, 111, 99, 107, 32, 48, 10, 116, 97, 115, 107, 32, 115, 108, 111, 119, 32, 50, 48, 32, 50, 48, 32, 54, 10, 108, 111, 99, 107, 32, 48, 10, 114, 117, 110, 32, 52, 10, 117, 110, 108, 111, 99, 107, 32, 48, 10, 114, 117, 110, 32, 49, 10]
def txt1 : Wd := [108, 111, 99, 107, 115, 32, 48, 10, 99, 104, 97, 110, 32, 49, 32, 45, 10, 116, 97, 115, 107, 32, 97, 32, 53, 32, 53, 32, 53, 10, 114, 117, 110, 32, 49, 10, 99, 104, 97, 110, 32, 49, 32, 45, 10]
def txt2 : Wd := [108, 111, 99, 107, 115, 32, 48, 10, 114, 117, 110, 32, 49, 10]
def txt4 : Wd := [108, 111, 99, 107, 115, 32, 48, 10, 116, 97, 115, 107, 32, 97, 32, 53, 32, 54, 32, 53, 10, 114, 117, 110, 32, 49, 10]
theorem two_text : printP twoS = (txt0, 0) := by decide +kernel
theorem two_read : setR txt0 = (twoS, 0, 0) := by decide +kernel
theorem bad1_read : setR txt1 = (set0, 4, 2) := by decide +kernel
theorem bad2_read : setR txt2 = (set0, 1, 2) := by decide +kernel
theorem bad3_read : setR [] = (set0, 0, 2) := by decide +kernel
theorem bad4_read : setR txt4 = (set0, 0, 1) := by decide +kernel
theorem two_sm : twoS.Sm := by
 have h := setR_sm (s := txt0) fun ls hl l hm => by
  have := (lines_bnd hl).2 l hm
  have h2 : txt0.length = 99 := by decide
  omega
 rwa [two_read] at h
theorem readCell (lp : LP p) {s : Wd} {h : Heap} {x : SetV} {i e : Int} (hs : s.length ≤ 1000) (hX : setR s = (x, i, e)) {K : CV → Heap → Prop}
  (k : ∀ c1 h1, setC.rep h1 (From h) c1 x → c1.length = 3 → c1.all CV.scalar = true → Keep NoneOf h h1 → K (.tup [.agg c1, .int .i64 i, .int .i64 e]) h1) : WF p 252 [.str s] h K := by
 refine (textParse_spec lp (by omega) fun ls hl l hm => by have := (lines_bnd hl).2 l hm; omega).mono ?_
 rw [hX]
 rintro r h1 ⟨c1, rfl, r1, k1⟩
 exact k c1 h1 r1 (setC.len r1) (setC.flat r1) k1
set_option maxRecDepth 100000 in
theorem known247 (lp : LP p) (hp : p.pr 247 = none) {h : Heap} : WF p 247 [] h fun r h' => r = .bool true ∧ Keep NoneOf h h' := by
 refine WF_of (by rw [lp.pg]; exact S.pg247) hp ?_
 show W p S.b247 _ _ (retQ [.t 0] _)
 unfold S.b247
 have hca : ∀ l, (CV.agg l).cells = l := fun _ => rfl
 simp
 refine (two_spec lp).mono ?_
 rintro r h1 ⟨k1, d, rfl, rd⟩
 try simp
 refine (print_spec lp rd two_sm.Sane two_sm.fine).mono ?_
 rintro r h2 ⟨rfl, k2⟩
 rw [two_text]
 try simp
 refine readCell lp (by decide) two_read fun c1 h3 r1 l1 f1 k3 => ?_
 have st1 := store_new (h := h3) (row := c1) (z := [.int .i64 0, .nils, .nils]) l1 f1
 have ff1 : fits (some 3) (.agg c1) = true := by simp [l1]
 have g1 := get_new (h := h3) (o := .arr c1 .tight)
 have kap1 := Keep.app NoneOf h3 [.arr c1 .tight]
 have r1' := setC.on r1 kap1
 simp [hca, ff1, st1]
 generalize hH1 : h3 ++ [Obj.arr c1 .tight] = H1 at *
 refine readCell lp (s := txt1) (by decide) bad1_read fun c2 h4 r2 l2 f2 k4 => ?_
 have st2 := store_new (h := h4) (row := c2) (z := [.int .i64 0, .nils, .nils]) l2 f2
 have ff2 : fits (some 3) (.agg c2) = true := by simp [l2]
 have kap2 := Keep.app NoneOf h4 [.arr c2 .tight]
 simp [hca, ff2, st2]
 generalize hH2 : h4 ++ [Obj.arr c2 .tight] = H2 at *
 refine readCell lp (s := txt2) (by decide) bad2_read fun c3 h5 r3 l3 f3 k5 => ?_
 have st3 := store_new (h := h5) (row := c3) (z := [.int .i64 0, .nils, .nils]) l3 f3
 have ff3 : fits (some 3) (.agg c3) = true := by simp [l3]
 have kap3 := Keep.app NoneOf h5 [.arr c3 .tight]
 simp [hca, ff3, st3]
 generalize hH3 : h5 ++ [Obj.arr c3 .tight] = H3 at *
 refine readCell lp (s := []) (by decide) bad3_read fun c4 h6 r4 l4 f4 k6 => ?_
 have st4 := store_new (h := h6) (row := c4) (z := [.int .i64 0, .nils, .nils]) l4 f4
 have ff4 : fits (some 3) (.agg c4) = true := by simp [l4]
 have kap4 := Keep.app NoneOf h6 [.arr c4 .tight]
 simp [hca, ff4, st4]
 generalize hH4 : h6 ++ [Obj.arr c4 .tight] = H4 at *
 refine readCell lp (s := txt4) (by decide) bad4_read fun c5 h7 r5 l5 f5 k7 => ?_
 have st5 := store_new (h := h7) (row := c5) (z := [.int .i64 0, .nils, .nils]) l5 f5
 have ff5 : fits (some 3) (.agg c5) = true := by simp [l5]
 have kap5 := Keep.app NoneOf h7 [.arr c5 .tight]
 have KK := ((((((((k4.trans kap2).trans k5).trans kap3).trans k6).trans kap4).trans k7).trans kap5))
 have w1 := ldw (KK.at g1 id) l1
 have K0 := (((k1.trans k2).trans k3).trans kap1).trans KK
 have r10 := setC.on r1' KK
 simp [hca, ff5, st5]
 generalize hH5 : h7 ++ [Obj.arr c5 .tight] = H5 at *
 have hw0 : IntKind.i64.wrap 0 = 0 := rfl
 simp [txt0, w1, hw0]
 refine (setOf_spec lp.pg (lp.no ⟨rfl, rfl⟩) (lp.no ⟨rfl, rfl⟩) (lp.no ⟨rfl, rfl⟩) r10 two_sm.Fit).mono ?_
 rintro r h8 ⟨k8, d8, rfl, rd8⟩
 try simp
 refine (two_spec lp).mono ?_
 rintro r h9 ⟨k9, d9, rfl, rd9⟩
 try simp
 refine (setOf_spec lp.pg (lp.no ⟨rfl, rfl⟩) (lp.no ⟨rfl, rfl⟩) (lp.no ⟨rfl, rfl⟩) rd9 two_sm.Fit).mono ?_
 rintro r h10 ⟨k10, d10, rfl, rd10⟩
 try simp
 refine (sameSet_spec lp (setC.on (setC.on rd8 k9) k10) rd10 two_sm.Sane).mono ?_
 rintro r h11 ⟨rfl, k11⟩
 simp
 exact (((K0.trans k8).trans k9).trans k10).trans k11
theorem chansEq_spec (lp : LP p) {h : Heap} {v0 v1 : CV} {a b : List ChanV} {P Q : Nat → Prop} (s0 : Sl chanC h P v0 a) (s1 : Sl chanC h Q v1 b) (hb : a.length ≤ big) :
  WF p 270 [v0, v1] h fun r h' => r = .bool (decide (a = b)) ∧ h' = h := by
 refine WF_of (by rw [lp.pg]; exact S.pg270) (lp.no ⟨rfl, rfl⟩) ?_
 show W p S.b270 _ _ (retQ [.t 4] _)
 unfold S.b270
 have n0 := s0.len (by decide)
 have n1 := s1.len (by decide)
 by_cases hl : a.length = b.length
 ·have hl' : (a.length : Int) = b.length := by omega
  simp [n0, n1, hl']
  rw [← hl']
  refine W_loop (EqInv v0 v1 ChanV a b h) ?_ a.length ⟨0, by omega, by omega, rfl, rfl, rfl⟩
  rintro m e h' ⟨i, hi, rfl, rfl, rfl, ht⟩
  by_cases hia : i = a.length
  ·subst hia
   have := eqDone ht hl
   simp [this]
  ·have hlt : i < a.length := by omega
   have hlt' : (i : Int) < a.length := by omega
   obtain ⟨b0, o0, row0, x1, x2, x3, x4⟩ := s0.row (k := .i64) (by decide) hlt
   obtain ⟨b1, o1, row1, y1, y2, y3, y4⟩ := s1.row (k := .i64) (by decide) (i := i) (by omega)
   have x4 : row0 = chL a[i] := x4
   have hlb : i < b.length := by omega
   have y4 : row1 = chL b[i] := y4
   simp only [chanC] at x1 x2 y1 y2
   subst x4 y4
   have hw : IntKind.i64.wrap ((i : Int) + 1) = ((i + 1 : Nat) : Int) := by
    simp [big] at hb
    rw [w64 (by omega) (by omega)]; omega
   by_cases he : a[i] = b[i]
   ·simp [hlt', x1, x2, y1, y2, eqChan, he, hw]
    exact ⟨a.length - (i + 1), by omega, i + 1, by omega, rfl, rfl, rfl, eqStep ht hlt hlb he⟩
   ·have hne : ¬ a = b := fun e => he (by subst e; rfl)
    simp [hlt', x1, x2, y1, y2, eqChan, he, hne]
 ·have hl' : ¬ (a.length : Int) = b.length := by omega
  have hne : ¬ a = b := fun e => hl (by rw [e])
  simp [n0, n1, hl', hne]
theorem taskAlike_spec (lp : LP p) {h : Heap} {pv qv : CV} {a b : TaskV} {P Q : Nat → Prop} (sp : Sl opC h P pv a.prog) (sq : Sl opC h Q qv b.prog) (hb : a.prog.length ≤ big) (hc : ∀ x ∈ a.prog, x.cases.length ≤ big) :
  WF p 271 [.agg (tkL a pv), .agg (tkL b qv)] h fun r h' => r = .bool (decide (a = b)) ∧ Keep NoneOf h h' := by
 refine WF_of (by rw [lp.pg]; exact S.pg271) (lp.no ⟨rfl, rfl⟩) ?_
 show W p S.b271 _ _ (retQ [.t 4] _)
 unfold S.b271
 have hca : ∀ l, (CV.agg l).cells = l := fun _ => rfl
 have kap := Keep.app NoneOf h [.arr (tkL a pv) .tight, .arr (tkL b qv) .tight]
 have gX : (h ++ [Obj.arr (tkL a pv) .tight, .arr (tkL b qv) .tight])[h.length]? = some (.arr (tkL a pv) .tight) := by simp
 have gY : (h ++ [Obj.arr (tkL a pv) .tight, .arr (tkL b qv) .tight])[h.length + 1]? = some (.arr (tkL b qv) .tight) := by simp
 have lX := ld gX
 have lY := ld gY
 have tx0 : (tkL a pv)[0]? = some (.str a.name) := rfl
 have tx1 : (tkL a pv)[1]? = some (.int .i64 a.per) := rfl
 have tx2 : (tkL a pv)[2]? = some (.int .i64 a.dl) := rfl
 have tx3 : (tkL a pv)[3]? = some (.int .i64 a.bud) := rfl
 have tx4 : (tkL a pv)[4]? = some pv := rfl
 have ty0 : (tkL b qv)[0]? = some (.str b.name) := rfl
 have ty1 : (tkL b qv)[1]? = some (.int .i64 b.per) := rfl
 have ty2 : (tkL b qv)[2]? = some (.int .i64 b.dl) := rfl
 have ty3 : (tkL b qv)[3]? = some (.int .i64 b.bud) := rfl
 have ty4 : (tkL b qv)[4]? = some qv := rfl
 by_cases n1 : a.name = b.name
 ·by_cases n2 : a.per = b.per
  ·by_cases n3 : a.dl = b.dl
   ·by_cases n4 : a.bud = b.bud
    ·simp [hca, n1, n2, n3, n4, lX, lY, tx0, tx1, tx2, tx3, tx4, ty0, ty1, ty2, ty3, ty4]
     refine (opsEq_spec lp.pg (lp.no ⟨rfl, rfl⟩) (lp.no ⟨rfl, rfl⟩) (lp.no ⟨rfl, rfl⟩) (sp.on kap) (sq.on kap) hb hc).mono ?_
     rintro r h3 ⟨rfl, k3⟩
     have hab : a = b ↔ a.prog = b.prog := ⟨fun h => by rw [h], fun h => by cases a; cases b; simp_all⟩
     simp [hab]
     exact kap.trans k3
    ·have hne : ¬ a = b := fun h => n4 (by rw [h])
     simp [hca, n1, n2, n3, n4, lX, lY, tx0, tx1, tx2, tx3, tx4, ty0, ty1, ty2, ty3, ty4, hne]
     exact kap
   ·have hne : ¬ a = b := fun h => n3 (by rw [h])
    simp [hca, n1, n2, n3, lX, lY, tx0, tx1, tx2, tx3, tx4, ty0, ty1, ty2, ty3, ty4, hne]
    exact kap
  ·have hne : ¬ a = b := fun h => n2 (by rw [h])
   simp [hca, n1, n2, lX, lY, tx0, tx1, tx2, tx3, tx4, ty0, ty1, ty2, ty3, ty4, hne]
   exact kap
 ·have hne : ¬ a = b := fun h => n1 (by rw [h])
  simp [hca, n1, lX, lY, tx0, tx1, tx2, tx3, tx4, ty0, ty1, ty2, ty3, ty4, hne]
  exact kap
def EqInv5 (v1 : CV) (v0 : CV) (a b : List TaskV) (h : Heap) (m : Nat) (e : Env) (h' : Heap) : Prop :=
 ∃ i : Nat, i ≤ a.length ∧ m = a.length - i ∧ e = [(1, v1), (2, .fn 271 []), (15, v0), (16, .int .i64 a.length), (17, .int .i64 i)] ∧ Keep NoneOf h h' ∧ a.take i = b.take i
theorem tasksEq_spec (lp : LP p) {h : Heap} {v0 v1 : CV} {a b : List TaskV} {P Q : Nat → Prop} (s0 : Sl taskC h P v0 a) (s1 : Sl taskC h Q v1 b) (hb : a.length ≤ big) (hc : ∀ t ∈ a, t.prog.length ≤ big ∧ ∀ x ∈ t.prog, x.cases.length ≤ big) :
  WF p 272 [v0, v1, .fn 271 []] h fun r h' => r = .bool (decide (a = b)) ∧ Keep NoneOf h h' := by
 refine WF_of (by rw [lp.pg]; exact S.pg272) (lp.no ⟨rfl, rfl⟩) ?_
 show W p S.b272 _ _ (retQ [.t 6] _)
 unfold S.b272
 have n0 := s0.len (by decide)
 have n1 := s1.len (by decide)
 by_cases hl : a.length = b.length
 ·have hl' : (a.length : Int) = b.length := by omega
  simp [n0, n1, hl']
  rw [← hl']
  refine W_loop (EqInv5 v1 v0 a b h) ?_ a.length ⟨0, by omega, by omega, rfl, Keep.refl _ _, rfl⟩
  rintro m e h' ⟨i, hi, rfl, rfl, k, ht⟩
  have t0 := s0.on k
  have t1 := s1.on k
  by_cases hia : i = a.length
  ·subst hia
   have := eqDone ht hl
   simp [this]
   exact k
  ·have hlt : i < a.length := by omega
   have hlt' : (i : Int) < a.length := by omega
   have hlb : i < b.length := by omega
   have hw : IntKind.i64.wrap ((i : Int) + 1) = ((i + 1 : Nat) : Int) := by
    simp [big] at hb
    rw [w64 (by omega) (by omega)]; omega
   obtain ⟨b0, o0, pv, x1, x2, x3, sp⟩ := taskRow t0 hlt
   have kA := Keep.app NoneOf h' [.arr (tkL a[i] pv) .tight]
   obtain ⟨b1, o1, qv, y1, y2, y3, sq⟩ := taskRow (t1.on kA) hlb
   have kB := Keep.app NoneOf h' [.arr (tkL a[i] pv) .tight, .arr (tkL b[i] qv) .tight]
   have stA := store_new (h := h') (row := tkL a[i] pv) (z := [.str [], .int .i64 0, .int .i64 0, .int .i64 0, .nils]) rfl (tkL_flat sp.scalar)
   have stB := store_new2 (h := h') (o := .arr (tkL a[i] pv) .tight) (row := tkL b[i] qv) (z := [.str [], .int .i64 0, .int .i64 0, .int .i64 0, .nils]) rfl (tkL_flat sq.scalar)
   have wX := ldw (show (h' ++ [Obj.arr (tkL a[i] pv) .tight, .arr (tkL b[i] qv) .tight])[h'.length]? = some (.arr (tkL a[i] pv) .tight) by simp) (n := 5) rfl
   have wY := ldw (show (h' ++ [Obj.arr (tkL a[i] pv) .tight, .arr (tkL b[i] qv) .tight])[h'.length + 1]? = some (.arr (tkL b[i] qv) .tight) by simp) (n := 5) rfl
   have ff1 : fits (some 5) (.agg (tkL a[i] pv)) = true := rfl
   have ff2 : fits (some 5) (.agg (tkL b[i] qv)) = true := rfl
   have hq := hc _ (List.getElem_mem hlt)
   have hes : a[i] = b[i] → a.take (i + 1) = b.take (i + 1) := fun h => eqStep ht hlt hlb h
   have hno : a[i] ≠ b[i] → ¬ a = b := fun h e => h (by subst e; rfl)
   have spB := sp.on kB
   have sqB := sq.on (app2 h' (.arr (tkL a[i] pv) .tight) (.arr (tkL b[i] qv) .tight))
   generalize a[i] = s at *
   generalize b[i] = t at *
   simp [hlt', x1, x2, stA, ff1, y1, y2, stB, ff2, wX, wY]
   refine (taskAlike_spec lp spB sqB hq.1 hq.2).mono ?_
   rintro r h2 ⟨rfl, k2⟩
   have k3 := k.trans (kB.trans k2)
   by_cases he : s = t
   ·simp [he, hw]
    exact ⟨a.length - (i + 1), by omega, i + 1, by omega, rfl, rfl, k3, hes he⟩
   ·have hne := hno he
    simp [he, hne]
    exact k3
 ·have hl' : ¬ (a.length : Int) = b.length := by omega
  have hne : ¬ a = b := fun e => hl (by rw [e])
  simp [n0, n1, hl', hne]
  exact Keep.refl _ _
theorem setSame_spec (lp : LP p) {h : Heap} {P Q : Nat → Prop} {x y : SetV} {c d : List CV} (rx : setC.rep h P c x) (ry : setC.rep h Q d y) (hx : x.Sane) :
  WF p 259 [.agg c, .agg d] h fun r h' => r = .bool (decide (x = y)) ∧ Keep NoneOf h h' := by
 refine WF_of (by rw [lp.pg]; exact S.pg259) (lp.no ⟨rfl, rfl⟩) ?_
 show W p S.b259 _ _ (retQ [.t 4] _)
 unfold S.b259
 have kap := Keep.app NoneOf h [.arr c .tight, .arr d .tight]
 have gC : (h ++ [Obj.arr c .tight, .arr d .tight])[h.length]? = some (.arr c .tight) := by simp
 have gD : (h ++ [Obj.arr c .tight, .arr d .tight])[h.length + 1]? = some (.arr d .tight) := by simp
 obtain ⟨cv, tv, hc0, sc, st⟩ := rx
 obtain ⟨dv, uv, hd0, sd, su⟩ := ry
 have c0 : c[0]? = some (.int .i64 x.locks) := by subst hc0; rfl
 have c1 : c[1]? = some cv := by subst hc0; rfl
 have c2 : c[2]? = some tv := by subst hc0; rfl
 have d0 : d[0]? = some (.int .i64 y.locks) := by subst hd0; rfl
 have d1 : d[1]? = some dv := by subst hd0; rfl
 have d2 : d[2]? = some uv := by subst hd0; rfl
 have hca : ∀ l, (CV.agg l).cells = l := fun _ => rfl
 have lC := ld gC
 have lD := ld gD
 have sc := sc.on kap
 have st := st.on kap
 have sd := sd.on kap
 have su := su.on kap
 by_cases e1 : x.locks = y.locks
 ·simp [hca, lC, lD, c0, c1, d0, d1, e1]
  refine (chansEq_spec lp sc sd hx.c).mono ?_
  rintro r h1 ⟨rfl, rfl⟩
  by_cases e2 : x.chans = y.chans
  ·simp [e2, lC, lD, c2, d2]
   refine (tasksEq_spec lp st su hx.t fun t ht => ⟨(hx.p t ht).1, fun o ho => by have := (hx.p t ht).2.1 o ho; simp [big]; omega⟩).mono ?_
   rintro r h2 ⟨rfl, k2⟩
   have hxy : x = y ↔ x.tasks = y.tasks := by rw [SetV.eq_iff]; simp [e1, e2]
   simp [hxy]
   exact kap.trans k2
  ·have hne : ¬ x = y := fun h => e2 (by rw [h])
   simp [e2, hne]
   exact kap
 ·have hne : ¬ x = y := fun h => e1 (by rw [h])
  simp [hca, lC, lD, c0, d0, e1, hne]
  exact kap
def lk0 : Wd := joinC 32 [wLocks, itoa 0]
def lgX (b c i : Nat) : Wd := linesOf (lk0 :: (List.replicate b (chanW ch1) ++ ((List.range i).map (tkN c)).flatMap taskLines))
theorem lgX_all (a b c : Nat) : lgX b c a = linesOf (setLines (longS a b c)) := by
 simp [lgX, setLines, longS, lk0]
theorem lgX_next (b c i : Nat) : lgX b c (i + 1) = lgX b c i ++ linesOf (taskW (tkN c i) :: List.replicate (if i = 0 then c else 1) (opText runOp)) := by
 unfold lgX
 rw [← linesOf_cat, List.range_succ, List.map_append, List.flatMap_append]
 simp [taskLines, tkN]
theorem lgC_next (b : Nat) : linesOf (lk0 :: List.replicate (b + 1) (chanW ch1)) = linesOf (lk0 :: List.replicate b (chanW ch1)) ++ [99, 104, 97, 110, 32, 49, 32, 45, 10] := by
 rw [List.replicate_succ', ← List.cons_append, linesOf_cat]
 simp [linesOf, ch1_text]
theorem lgR_next (t : Wd) (j : Nat) : linesOf (t :: List.replicate (j + 1) (opText runOp)) = linesOf (t :: List.replicate j (opText runOp)) ++ [114, 117, 110, 32, 49, 10] := by
 rw [List.replicate_succ', ← List.cons_append, linesOf_cat]
 simp [linesOf, run_text]
def LgA (a b c : Nat) (h : Heap) (m : Nat) (e : Env) (h' : Heap) : Prop :=
 ∃ (i : Nat) (T : Wd), i ≤ b ∧ m = b - i ∧ e = [(7, .int .i64 a), (8, .int .i64 b), (9, .int .i64 c), (10, .str T), (11, .int .i64 i)] ∧ h' = h ∧ T = linesOf (lk0 :: List.replicate i (chanW ch1)) ∧ T.length ≤ 100 + 100 * i
def LgB (a b c : Nat) (h : Heap) (m : Nat) (e : Env) (h' : Heap) : Prop :=
 ∃ (i : Nat) (T : Wd), i ≤ a ∧ m = a - i ∧ e = [(7, .int .i64 a), (8, .int .i64 b), (9, .int .i64 c), (10, .str T), (12, .int .i64 i)] ∧ Keep NoneOf h h' ∧ T = lgX b c i ∧ T.length ≤ 2000 + 2000 * i
def LgC (a b c : Nat) (h : Heap) (m : Nat) (e : Env) (h' : Heap) : Prop :=
 ∃ (j : Nat) (T : Wd), j ≤ c ∧ m = c - j ∧ e = [(7, .int .i64 a), (8, .int .i64 b), (9, .int .i64 c), (10, .str T), (12, .int .i64 0), (13, .int .i64 j)] ∧ Keep NoneOf h h' ∧ T = lgX b c 0 ++ linesOf (taskW (tkN c 0) :: List.replicate j (opText runOp)) ∧ T.length ≤ 3000 + 10 * j
theorem textLongs_law (lp : LP p) (hp : p.pr 247 = none) {n m k : Int} {h : Heap} (n0 : 0 ≤ n) (n1 : n ≤ 255) (m0 : 0 ≤ m) (m1 : m ≤ 255) (k0 : 0 ≤ k) (k1 : k ≤ 255) : WF p 258 [.int .u8 n, .int .u8 m, .int .u8 k] h fun r _ => r = .bool true := by
 refine WF_of (by rw [lp.pg]; exact S.pg258) (lp.no ⟨rfl, rfl⟩) ?_
 show W p S.b258 _ _ (retQ [.t 6] _)
 unfold S.b258
 have ho : ∀ (q x : Int), 0 < q → q ≤ 255 → 0 ≤ x → ∃ a : Nat, a < q ∧ IntKind.i64.wrap (x.tmod q) = (a : Int) ∧ IntKind.i64.wrap (1 + (a : Int)) = ((a + 1 : Nat) : Int) := fun q x hq hq2 hx => by
  have e := Int.tmod_eq_emod_of_nonneg (a := x) (b := q) hx
  have h1 := Int.emod_nonneg x (b := q) (by omega)
  have h2 := Int.emod_lt_of_pos x hq
  obtain ⟨a, ha⟩ := Int.eq_ofNat_of_zero_le h1
  refine ⟨a, by omega, ?_, ?_⟩
  ·rw [e, ha, w64 (by omega) (by omega)]
  ·rw [w64 (by omega) (by omega)]; omega
 obtain ⟨a', ha', hA, hA2⟩ := ho 13 n (by omega) (by omega) n0
 obtain ⟨b, hb', hB, _⟩ := ho 10 m (by omega) (by omega) m0
 obtain ⟨c', hc', hC, hC2⟩ := ho 50 k (by omega) (by omega) k0
 try simp
 refine (known247 lp hp).mono ?_
 rintro r h0 ⟨rfl, _⟩
 obtain ⟨a, ha⟩ : ∃ a, a = a' + 1 := ⟨_, rfl⟩
 obtain ⟨c, hc⟩ : ∃ c, c = c' + 1 := ⟨_, rfl⟩
 rw [← ha] at hA2
 rw [← hc] at hC2
 have a1 : 1 ≤ a := by omega
 have a13 : a ≤ 13 := by omega
 have b9 : b ≤ 9 := by omega
 have c1 : 1 ≤ c := by omega
 have c50 : c ≤ 50 := by omega
 simp [hA, hB, hC, hA2, hC2]
 refine W_loop (LgA a b c h0) ?_ b ⟨0, _, by omega, by omega, rfl, rfl, by decide, by simp⟩
 rintro m e h1 ⟨i, T, hi, rfl, rfl, rfl, hT, hl⟩
 by_cases hie : i = b
 ·subst hie
  simp
  refine W_loop (LgB a i c h1) ?_ a ⟨0, T, by omega, by omega, rfl, Keep.refl _ _, by rw [hT]; simp [lgX], by omega⟩
  clear hT hl
  rintro m e h2 ⟨j, T, hj, rfl, rfl, k2, hT, hl⟩
  by_cases hje : j = a
  ·subst hje
   rw [lgX_all] at hT
   have hR := setR_long (a := j) (b := i) (c := c) (by omega) a13 b9 c1 c50
   rw [← hT] at hR
   simp
   have hlong : ∀ ls, linesP T = some ls → ∀ l ∈ ls, l.length ≤ 100000 := fun ls hls l hm => by have := (lines_bnd hls).2 l hm; omega
   refine (textParse_spec lp (by omega) hlong).mono ?_
   obtain ⟨X, hX⟩ : ∃ X, setR T = X := ⟨_, rfl⟩
   obtain ⟨x, l, e⟩ := X
   rw [hX] at hR ⊢
   rintro r h7 ⟨c7, rfl, r7, k7⟩
   have r7 : setC.rep h7 (From h2) c7 x := r7
   have l7 : c7.length = 3 := setC.len r7
   have st7 := store_new (h := h7) (row := c7) (z := [.int .i64 0, .nils, .nils]) l7 (setC.flat r7)
   have g7 := get_new (h := h7) (o := .arr c7 .tight)
   have kap7 := Keep.app NoneOf h7 [.arr c7 .tight]
   have f7 : fits (some 3) (.agg c7) = true := by simp [l7]
   have hca : ∀ l, (CV.agg l).cells = l := fun _ => rfl
   have r7' := setC.on r7 kap7
   simp [hca, f7, st7]
   generalize hH7 : h7 ++ [Obj.arr c7 .tight] = H7 at *
   by_cases d1 : 8 < i
   ·rw [if_pos d1] at hR
    obtain ⟨rfl, rfl, rfl⟩ : x = set0 ∧ l = 9 ∧ e = 4 := by simpa using hR
    have d1' : (8 : Int) < i := by omega
    simp [d1, d1']
   ·rw [if_neg d1] at hR
    have d1' : ¬ (8 : Int) < i := by omega
    by_cases d2 : 48 < c
    ·rw [if_pos d2] at hR
     obtain ⟨rfl, rfl, rfl⟩ : x = set0 ∧ l = 1 + (i : Int) + 49 ∧ e = 4 := by simpa using hR
     have d2' : (48 : Int) < c := by omega
     have w1 : IntKind.i64.wrap (1 + (i : Int)) = 1 + (i : Int) := w64 (by omega) (by omega)
     have w2 : IntKind.i64.wrap (1 + (i : Int) + 49) = 1 + (i : Int) + 49 := w64 (by omega) (by omega)
     simp [d1, d1', d2, d2', w1, w2]
    ·rw [if_neg d2] at hR
     have d2' : ¬ (48 : Int) < c := by omega
     by_cases d3 : 12 < j
     ·rw [if_pos d3] at hR
      obtain ⟨rfl, rfl, rfl⟩ : x = set0 ∧ l = 1 + (i : Int) + 1 + c + 22 ∧ e = 4 := by simpa using hR
      have d3' : (12 : Int) < j := by omega
      have w1 : IntKind.i64.wrap (1 + (i : Int)) = 1 + (i : Int) := w64 (by omega) (by omega)
      have w2 : IntKind.i64.wrap (1 + (i : Int) + 1) = 1 + (i : Int) + 1 := w64 (by omega) (by omega)
      have w3 : IntKind.i64.wrap (1 + (i : Int) + 1 + c) = 1 + (i : Int) + 1 + c := w64 (by omega) (by omega)
      have w4 : IntKind.i64.wrap (1 + (i : Int) + 1 + c + 22) = 1 + (i : Int) + 1 + c + 22 := w64 (by omega) (by omega)
      simp [d1, d1', d2, d2', d3, d3', w1, w2, w3, w4]
     ·rw [if_neg d3] at hR
      have d3' : ¬ (12 : Int) < j := by omega
      obtain ⟨rfl, rfl, rfl⟩ : x = longS j i c ∧ l = 0 ∧ e = 0 := by simpa using hR
      have hw7 := ldw g7 l7
      have hsane : (longS j i c).Sane := by
       refine ⟨fun t ht => ?_, by simp [longS, big]; omega, by simp [longS, big]; omega⟩
       obtain ⟨q, hq, rfl⟩ := List.mem_map.1 ht
       refine ⟨?_, fun o ho => ?_, by simp [tkN]⟩
       ·simp only [tkN, List.length_replicate, big]; split <;> omega
       ·have : o = runOp := List.eq_of_mem_replicate ho
        subst this; simp [runOp]
      have r70 := r7'
      obtain ⟨cv, tv, hc0, sc, st⟩ := r7'
      have s1 : c7[1]? = some cv := by subst hc0; rfl
      have s2 : c7[2]? = some tv := by subst hc0; rfl
      have l7' := ld g7
      have nc := sc.len (by decide)
      have nt := st.len (by decide)
      have hcl : (longS j i c).chans.length = i := by simp [longS]
      have htl : (longS j i c).tasks.length = j := by simp [longS]
      rw [hcl] at nc
      rw [htl] at nt
      obtain ⟨bb, ob, row, y1, y2, y3, pv, hrow, sp⟩ := st.row (k := .i64) (i := 0) (by decide) (by omega)
      have y4 := y3 4 (by decide)
      rw [hrow] at y4
      have y4 : loadAt H7 bb (ob + 4) none = some pv := y4
      simp only [taskC] at y1
      have y1 : idxAddrV 5 tv (.int .i64 0) = some (.ptr bb ob) := y1
      have hpg : (longS j i c).tasks[0].prog = List.replicate c runOp := by simp [longS, tkN]
      rw [hpg] at sp
      have np := sp.len (by decide)
      rw [List.length_replicate] at np
      have hwc : IntKind.i64.wrap ((c : Int) - 1) = ((c - 1 : Nat) : Int) := by rw [w64 (by omega) (by omega)]; omega
      obtain ⟨b6, o6, row6, u1, u2, u3, u4, u5, u6⟩ := opRow sp (i := c - 1) (by rw [List.length_replicate]; omega)
      have hop : (List.replicate c runOp)[c - 1]'(by rw [List.length_replicate]; omega) = runOp := by simp
      rw [hop] at u5
      have f2 : fillC [.int .i64 0, .int .i64 0, .int .i64 0, .int .i64 0, .nils] [(0, 1, .int .i64 1), (1, 1, .int .i64 1)] = some [.int .i64 1, .int .i64 1, .int .i64 0, .int .i64 0, .nils] := rfl
      simp [d1, d1', d2, d2', d3, d3', l7', s1, s2, nc, nt, y1, y4, np, hwc, u1, u2, f2]
      have ro : opC.rep H7 NoneOf [.int .i64 1, .int .i64 1, .int .i64 0, .int .i64 0, .nils] runOp := ⟨.nils, rfl, Sl.nil⟩
      refine (opSame_spec lp.pg (lp.no ⟨rfl, rfl⟩) (lp.no ⟨rfl, rfl⟩) u5 ro (by simp [runOp])).mono ?_
      rintro r h8 ⟨rfl, k8⟩
      have w8 := ldw (k8.at g7 id) l7
      simp [w8]
      refine (setSame_spec lp (setC.on r70 k8) (setC.on r70 k8) hsane).mono ?_
      rintro r h9 ⟨rfl, k9⟩
      simp
  ·have hlt : j < a := by omega
   have hlt' : (j : Int) < a := by omega
   have hw : IntKind.i64.wrap ((j : Int) + 1) = ((j + 1 : Nat) : Int) := by rw [w64 (by omega) (by omega)]; omega
   have hw97 : IntKind.i64.wrap (97 + (j : Int)) = 97 + (j : Int) := w64 (by omega) (by omega)
   have hu8 : IntKind.u8.wrap (97 + (j : Int)) = 97 + (j : Int) := by
    have : ∀ q : Fin 13, IntKind.u8.wrap (97 + (q.val : Int)) = 97 + (q.val : Int) := by decide
    exact this ⟨j, by omega⟩
   have hcs : cellsAt (h2 ++ [Obj.arr [.int .u8 (97 + (j : Int))] .tight]) h2.length 0 1 = some [.int .u8 (97 + (j : Int))] := by simp [cellsAt]
   have hby : ofBytes [.int .u8 (97 + (j : Int))] = some [UInt8.ofNat (97 + j)] := by
    have : ∀ q : Fin 13, ofBytes [.int .u8 (97 + (q.val : Int))] = some [UInt8.ofNat (97 + q.val)] := by decide
    exact this ⟨j, by omega⟩
   have kap := Keep.app NoneOf h2 [.arr [.int .u8 (97 + (j : Int))] .tight]
   have hnx := lgX_next i c j
   rw [← hT] at hnx
   simp [hlt, hlt', hw97, hu8, tOV_if, fillC, splice, hcs, hby]
   by_cases hj0 : j = 0
   ·subst hj0
    simp [tOV_if]
    refine ⟨by omega, by omega, by omega, ?_⟩
    refine W_loop (LgC a i c h1) ?_ c ⟨0, _, by omega, by omega, rfl, k2.trans kap, by rw [hT]; simp [linesOf, tk_text], by simp; omega⟩
    rintro m e h3 ⟨q, U, hq, rfl, rfl, k3, hU, hul⟩
    by_cases hqe : q = c
    ·subst hqe
     have hw1 : IntKind.i64.wrap 1 = 1 := rfl
     simp [hw1]
     exact ⟨a - 1, by omega, 1, U, by omega, rfl, rfl, k3, by rw [hU, hnx, hT]; simp, by omega⟩
    ·have hlq : q < c := by omega
     have hlq' : (q : Int) < c := by omega
     have hwq : IntKind.i64.wrap ((q : Int) + 1) = ((q + 1 : Nat) : Int) := by rw [w64 (by omega) (by omega)]; omega
     have hrn := lgR_next (taskW (tkN c 0)) q
     simp [hlq, hlq', hwq, tOV_if]
     exact ⟨by omega, c - (q + 1), by omega, q + 1, _, by omega, rfl, rfl, k3, by rw [hrn, hU]; simp, by simp; omega⟩
   ·have hjp : 0 < j := by omega
    rw [if_neg hj0] at hnx
    simp [hjp, tOV_if, hw]
    exact ⟨by omega, by omega, by omega, by omega, a - (j + 1), by omega, j + 1, _, by omega, rfl, rfl, k2.trans kap, by rw [hnx]; simp [linesOf, tk_text, run_text], by simp; omega⟩
 ·have hlt : i < b := by omega
  have hlt' : (i : Int) < b := by omega
  have hw : IntKind.i64.wrap ((i : Int) + 1) = ((i + 1 : Nat) : Int) := by rw [w64 (by omega) (by omega)]; omega
  have hnx := lgC_next i
  rw [← hT] at hnx
  simp [hlt, hlt', hw, tOV_if]
  exact ⟨by omega, b - (i + 1), by omega, i + 1, _, by omega, rfl, rfl, rfl, by rw [hnx], by simp; omega⟩
end Go.Cl
