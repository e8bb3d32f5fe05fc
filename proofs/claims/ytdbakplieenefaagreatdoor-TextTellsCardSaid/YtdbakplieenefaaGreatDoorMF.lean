/-
  Texts laid together: ATextW ATextL ATextK ATextO.
-/
import Derived.Test.YtdbakplieenefaaGreatDoorME
import Derived.Test.YtdbakplieenefaaGreatDoorM8
namespace Go.Cl
open Go
set_option linter.unusedSimpArgs false
set_option linter.unusedVariables false
set_option maxHeartbeats 2000000
variable {p : PP}
def fewT (t : TaskV) : Bool := FewP t.prog && decide (t.name.length ≤ 50)
def FewS (x : SetV) : Bool := decide (x.tasks.length ≤ 20) && (decide (x.chans.length ≤ 20) && x.tasks.all fewT)
def FwI (b0 : Nat) (x : SetV) (h : Heap) (m : Nat) (e : Env) (h' : Heap) : Prop :=
 ∃ i : Nat, i ≤ x.tasks.length ∧ m = x.tasks.length - i ∧ e = [(1, .ptr b0 0), (3, .int .i64 i)] ∧ Keep NoneOf h h' ∧ x.tasks.all fewT = (x.tasks.drop i).all fewT
theorem few_spec (lp : LP p) {h : Heap} {P : Nat → Prop} {x : SetV} {c : List CV} (rx : setC.rep h P c x) :
  WF p 248 [.agg c] h fun r h' => r = .bool (FewS x) ∧ Keep NoneOf h h' := by
 refine WF_of (by rw [lp.pg]; exact S.pg248) (lp.no ⟨rfl, rfl⟩) ?_
 show W p S.b248 _ _ (retQ [.t 2] _)
 unfold S.b248
 have kap := Keep.app NoneOf h [.arr c .tight]
 have gC := get_new (h := h) (o := .arr c .tight)
 obtain ⟨cv, tv, hc0, sc, st⟩ := rx
 have c1 : c[1]? = some cv := by subst hc0; rfl
 have c2 : c[2]? = some tv := by subst hc0; rfl
 have hca : ∀ l, (CV.agg l).cells = l := fun _ => rfl
 have sc := sc.on kap
 have st := st.on kap
 have lC := ld gC
 have nc := sc.len (by decide)
 have nt := st.len (by decide)
 by_cases e1 : 20 < x.tasks.length
 ·have e1' : (20 : Int) < x.tasks.length := by omega
  have hF : FewS x = false := by simp [FewS]; omega
  simp [hca, lC, c2, nt, e1, e1', hF]
  exact kap
 ·by_cases e2 : 20 < x.chans.length
  ·have e1' : ¬ (20 : Int) < x.tasks.length := by omega
   have e2' : (20 : Int) < x.chans.length := by omega
   have hF : FewS x = false := by simp [FewS]; omega
   simp [hca, lC, c1, c2, nt, nc, e1, e1', e2, e2', hF]
   exact kap
  ·have e1' : ¬ (20 : Int) < x.tasks.length := by omega
   have e2' : ¬ (20 : Int) < x.chans.length := by omega
   have hF : FewS x = x.tasks.all fewT := by
    unfold FewS
    rw [show decide (x.tasks.length ≤ 20) = true by simp; omega, show decide (x.chans.length ≤ 20) = true by simp; omega]
    simp
   rw [hF]
   simp [hca, lC, c1, c2, nt, nc, e1, e1', e2, e2']
   refine W_loop (FwI h.length x (h ++ [.arr c .tight])) ?_ x.tasks.length ⟨0, by omega, by omega, rfl, Keep.refl _ _, rfl⟩
   rintro m e H1 ⟨i, hi, rfl, rfl, k1, hg⟩
   have gC1 := k1.at gC id
   have lC := ld gC1
   have st1 := st.on k1
   have nt := st1.len (by decide)
   by_cases hie : i = x.tasks.length
   ·subst hie
    rw [List.drop_length] at hg
    rw [hg]
    simp [lC, c2, nt]
    exact kap.trans k1
   ·have hlt : i < x.tasks.length := by omega
    have hlt' : (i : Int) < x.tasks.length := by omega
    have hw : IntKind.i64.wrap ((i : Int) + 1) = ((i + 1 : Nat) : Int) := by rw [w64 (by omega) (by omega)]; omega
    obtain ⟨b0, o0, row, x1, x2, x3, pv, hrow, sp⟩ := st1.row (k := .i64) (by decide) hlt
    have y0 := x3 0 (by decide)
    have y4 := x3 4 (by decide)
    rw [hrow] at y0 y4
    have y0 : loadAt H1 b0 o0 none = some (.str x.tasks[i].name) := y0
    have y4 : loadAt H1 b0 (o0 + 4) none = some pv := y4
    simp only [taskC] at x1
    rw [List.drop_eq_getElem_cons hlt, List.all_cons] at hg
    rw [hg]
    simp [lC, c2, nt, hlt', x1, y4]
    refine (progFew_spec lp.pg (lp.no ⟨rfl, rfl⟩) (lp.no ⟨rfl, rfl⟩) sp).mono ?_
    rintro r H2 ⟨rfl, k2⟩
    have lC2 := ld (k2.at gC1 id)
    have y0' := load_on y0 k2 none o0
    rw [y0] at y0'
    have hfe : fewT x.tasks[i] = (FewP x.tasks[i].prog && decide (x.tasks[i].name.length ≤ 50)) := rfl
    cases hp : FewP x.tasks[i].prog with
    | false =>
      rw [hfe, hp]
      simp
      exact (kap.trans k1).trans k2
    | true =>
      by_cases hn : 50 < x.tasks[i].name.length
      ·have hn' : (50 : Int) < x.tasks[i].name.length := by omega
       have hd : decide (x.tasks[i].name.length ≤ 50) = false := by simp; omega
       rw [hfe, hp, hd]
       simp [lC2, c2, x1, y0', hn, hn']
       exact (kap.trans k1).trans k2
      ·have hn' : ¬ (50 : Int) < x.tasks[i].name.length := by omega
       have hd : decide (x.tasks[i].name.length ≤ 50) = true := by simp; omega
       rw [hfe, hp, hd] at hg
       simp only [Bool.and_self, Bool.true_and] at hg
       simp [lC2, c2, x1, y0', hn, hn', hw]
       exact ⟨x.tasks.length - (i + 1), by omega, i + 1, by omega, rfl, rfl, k1.trans k2, hg⟩
theorem setGo_sm : ∀ (ls : List Wd) (i : Nat) (s : SetV), s.Sm → (∀ l ∈ ls, l.length ≤ 100000) → (setGo i ls s).1.Sm
 | [], i, s, m, _ => by
   rw [setGo]
   split
   ·exact m
   ·exact set0_sm
 | l :: ls, i, s, m, h => by
   rw [setGo]
   split
   ·exact setGo_sm ls _ _ (lineSR_sm m (h l (by simp))) fun x hx => h x (by simp [hx])
   ·exact set0_sm
theorem setR_sm {s : Wd} (h : ∀ ls, linesP s = some ls → ∀ l ∈ ls, l.length ≤ 100000) : (setR s).1.Sm := by
 unfold setR
 cases hl : linesP s with
 | none => exact set0_sm
 | some ls =>
   cases ls with
   | nil => exact set0_sm
   | cons l ls => exact setGo_sm _ _ _ set0_sm fun x hx => h _ hl x hx
theorem SetV.Sm.Fit {s : SetV} (m : s.Sm) : s.Fit := ⟨by have := m.c; omega, by have := m.t; omega, fun t ht => ⟨by have := (m.p t ht).1; omega, fun o ho => ((m.p t ht).2.2 o ho).l⟩⟩
def chanTy : Ty := .cons (.int .i64) (.cons (.int .i64) .nil)
def taskTy : Ty := .cons .str (.cons (.int .i64) (.cons (.int .i64) (.cons (.int .i64) (.cons (.sl opTy) .nil))))
def setTy : Ty := .cons (.int .i64) (.cons (.sl chanTy) (.cons (.sl taskTy) .nil))
def okChan (x : ChanV) : Prop := inI x.room ∧ inI x.server
def okTask (x : TaskV) : Prop := x.name.length ≤ maxLen ∧ inI x.per ∧ inI x.dl ∧ inI x.bud ∧ x.prog.length ≤ maxLen ∧ ∀ o ∈ x.prog, okOp o
def okSet (x : SetV) : Prop := inI x.locks ∧ (∀ c ∈ x.chans, okChan c) ∧ ∀ t ∈ x.tasks, okTask t
theorem tellsChan : Tells chanTy chanC okChan := by
 refine ⟨rfl, fun h c s => ?_⟩
 obtain ⟨c1, c', rfl, s1, s⟩ := sh_cons s
 obtain ⟨c2, c', rfl, s2, s⟩ := sh_cons s
 have e := sh_nil s
 subst e
 obtain ⟨a, rfl, ha⟩ := sh_int s1
 obtain ⟨b, rfl, hb⟩ := sh_int s2
 exact ⟨⟨a, b⟩, rfl, ha, hb⟩
theorem tellsTask : Tells taskTy taskC okTask := by
 refine ⟨rfl, fun h c s => ?_⟩
 obtain ⟨c1, c', rfl, s1, s⟩ := sh_cons s
 obtain ⟨c2, c', rfl, s2, s⟩ := sh_cons s
 obtain ⟨c3, c', rfl, s3, s⟩ := sh_cons s
 obtain ⟨c4, c', rfl, s4, s⟩ := sh_cons s
 obtain ⟨c5, c', rfl, s5, s⟩ := sh_cons s
 have e := sh_nil s
 subst e
 obtain ⟨a, rfl, ha⟩ := (show ∃ s, c1 = [.str s] ∧ s.length ≤ maxLen from s1)
 obtain ⟨b, rfl, hb⟩ := sh_int s2
 obtain ⟨d, rfl, hd⟩ := sh_int s3
 obtain ⟨f, rfl, hf⟩ := sh_int s4
 obtain ⟨v, l, rfl, hv, hl, hw⟩ := sh_sl tellsOp s5
 exact ⟨⟨a, b, d, f, l⟩, ⟨v, rfl, hv⟩, ha, hb, hd, hf, hl, hw⟩
theorem tellsSet : Tells setTy setC okSet := by
 refine ⟨rfl, fun h c s => ?_⟩
 obtain ⟨c1, c', rfl, s1, s⟩ := sh_cons s
 obtain ⟨c2, c', rfl, s2, s⟩ := sh_cons s
 obtain ⟨c3, c', rfl, s3, s⟩ := sh_cons s
 have e := sh_nil s
 subst e
 obtain ⟨a, rfl, ha⟩ := sh_int s1
 obtain ⟨v, l, rfl, hv, hl, hw⟩ := sh_sl tellsChan s2
 obtain ⟨v2, l2, rfl, hv2, hl2, hw2⟩ := sh_sl tellsTask s3
 exact ⟨⟨a, l, l2⟩, ⟨v, v2, rfl, hv, hv2⟩, ha, hw, hw2⟩
structure FewFacts (x : SetV) : Prop where
 sane : x.Sane
 fit : x.Fit
 fine : x.fine
theorem few_of {x : SetV} (ok : okSet x) (f : FewS x = true) : FewFacts x := by
 simp only [FewS, Bool.and_eq_true, decide_eq_true_eq, List.all_eq_true, fewT, FewP] at f
 obtain ⟨f1, f2, f3⟩ := f
 exact ⟨⟨fun t ht => ⟨by have := (f3 t ht).1.1; simp [big]; omega, fun o ho => by have := (f3 t ht).1.2 o ho; omega, by have := (f3 t ht).2; omega⟩, by simp [big]; omega, by simp [big]; omega⟩,
  ⟨by omega, by omega, fun t ht => ⟨by have := (f3 t ht).1.1; omega, fun o ho => by have := (f3 t ht).1.2 o ho; omega⟩⟩,
  fun t ht o ho => ((ok.2.2 t ht).2.2.2.2.2 o ho).fine⟩
theorem setTold_len {x : SetV} (k : SetOk x) (f : x.fine) : (linesOf (setLines x)).length ≤ 240600 ∧ ∀ ls, linesP (linesOf (setLines x)) = some ls → ∀ l ∈ ls, l.length ≤ 100000 := by
 obtain ⟨a, b⟩ := setLines_len k
 have := linesOf_len b
 have h2 := Nat.mul_le_mul_right 401 a
 refine ⟨by omega, fun ls hl l hm => ?_⟩
 rw [lines_of (setLines_no10 k f)] at hl
 cases hl
 have := b l hm
 omega
def uA : OpV := ⟨1, 1, 0, 0, []⟩
def uB : OpV := ⟨2, 0, 0, 0, []⟩
def uC : OpV := ⟨3, 0, 0, 0, []⟩
def uD : OpV := ⟨1, 4, 0, 0, []⟩
def oL (x : OpV) : List CV := [.int .i64 x.kind, .int .i64 x.n, .int .i64 x.v, .int .i64 x.wait, .nils]
def twA : TaskV := ⟨[102, 97, 115, 116], 10, 8, 3, [uA, uB, uA, uC]⟩
def twB : TaskV := ⟨[115, 108, 111, 119], 20, 20, 6, [uB, uD, uC, uA]⟩
def twoS : SetV := ⟨1, [], [twA, twB]⟩
theorem op_rows {h : Heap} {P : Nat → Prop} : ∀ (l : List OpV), (∀ o ∈ l, o.cases = []) → Rows opC h P (l.flatMap oL) l
 | [], _ => Rows.nil
 | o :: l, hl => by
   rw [List.flatMap_cons, show o :: l = [o] ++ l from rfl]
   refine Rows.append (Rows.one (e := opC) (c := oL o) ⟨.nils, rfl, ?_⟩) (op_rows l fun x hx => hl x (by simp [hx]))
   rw [hl o (by simp)]
   exact Sl.nil
theorem own_sl {α : Type} {e : Cod α} {h : Heap} {P : Nat → Prop} {b n : Nat} {l : List α} {cells : List CV} (g : h[b]? = some (.arr cells .tight)) (r : Rows e h P cells l) (hn : n = l.length) (hb : P b) : Sl e h P (.sl b 0 n n) l := by
 subst hn
 have m : Mine h e.n (.sl b 0 l.length l.length) cells := .inr ⟨b, l.length, .tight, rfl, r.1, .inl rfl, g⟩
 exact ⟨cells, m.read, ⟨m.ok, fun x hx => by simp [CV.blk] at hx; subst hx; exact hb⟩, r⟩
theorem two_spec (lp : LP p) {h : Heap} : WF p 52 [] h fun r h' => Keep NoneOf h h' ∧ ∃ d, r = .agg d ∧ setC.rep h' (From h) d twoS := by
 refine WF_of (by rw [lp.pg]; exact S.pg52) (lp.no ⟨rfl, rfl⟩) ?_
 show W p S.b52 _ _ (retQ [.cell (some 3) 0] _)
 unfold S.b52
 have hca : ∀ l, (CV.agg l).cells = l := fun _ => rfl
 have hlt : h.length < h.length + 3 + 2 := by omega
 simp [fillC, splice, hca, fits, storeAt, loadAt, List.getElem?_append, List.set_append, hlt]
 refine ⟨Keep.app _ _ _, .nils, .sl (h.length + 5) 0 2 2, rfl, Sl.nil, ?_⟩
 refine own_sl (cells := tkL twA (.sl (h.length + 1) 0 4 4) ++ tkL twB (.sl (h.length + 3) 0 4 4)) (by simp [tkL, twA, twB]) ?_ rfl (by simp only [From]; omega)
 refine Rows.append (Rows.one (e := taskC) ⟨_, rfl, ?_⟩) (Rows.one (e := taskC) ⟨_, rfl, ?_⟩)
 ·exact own_sl (cells := [uA, uB, uA, uC].flatMap oL) (by simp [oL, uA, uB, uC]) (op_rows _ (by simp [uA, uB, uC])) rfl (by simp only [From]; omega)
 ·exact own_sl (cells := [uB, uD, uC, uA].flatMap oL) (by simp [oL, uA, uB, uC, uD]) (op_rows _ (by simp [uA, uB, uC, uD])) rfl (by simp only [From]; omega)
def txt0 : Wd := [108, 111, 99, 107, 115, 32, 49, 10, 116, 97, 115, 107, 32, 102, 97, 115, 116, 32, 49, 48, 32, 56, 32, 51, 10, 114, 117, 110, 32, 49, 10, 108, 111, 99, 107, 32, 48, 10, 114, 117, 110, 32, 49, 10, 117, 110, 108, 111, 99, 107, 32, 48, 10, 116, 97, 115, 107, 32, 115, 108, 111, 119, 32, 50, 48, 32, 50, 48, 32, 54, 10, 108, 111, 99, 107, 32, 48, 10, 114, 117, 110, 32, 52, 10, 117, 110, 108, 111, 99, 107, 32, 48, 10, 114, 117, 110, 32, 49, 10]
def txt1 : Wd := [108, 111, 99, 107, 115, 32, 48, 10, 99, 104, 97, 110, 32, 49, 32, 45, 10, 116, 97, 115, 107, 32, 97, 32, 53, 32, 53, 32, 53, 10, 114, 117, 110, 32, 49, 10, 99, 104, 97, 110, 32, 49, 32, 45, 10]
def txt2 : Wd := [108, 111, 99, 107, 115, 32, 48, 10, 114, 117, 110, 32, 49, 10]
def txt4 : Wd := [108, 111, 99, 107, 115, 32, 48, 10, 116, 97, 115, 107, 32, 97, 32, 53, 32, 54, 32, 53, 10, 114, 117, 110, 32, 49, 10]
theorem two_text : printP twoS = (txt0, 0) := by decide +kernel
theorem two_read : setR txt0 = (twoS, 0, 0) := by decide +kernel
theorem bad1_read : setR txt1 = (set0, 4, 2) := by decide +kernel
theorem bad2_read : setR txt2 = (set0, 1, 2) := by decide +kernel
theorem bad3_read : setR [] = (set0, 0, 2) := by decide +kernel
theorem bad4_read : setR txt4 = (set0, 0, 1) := by decide +kernel
theorem two_sm : twoS.Sm := by
 have h := setR_sm (s := txt0) fun ls hl l hm => by
  have := (lines_bnd hl).2 l hm
  have h2 : txt0.length = 99 := by decide
  omega
 rwa [two_read] at h
theorem readCell (lp : LP p) {s : Wd} {h : Heap} {x : SetV} {i e : Int} (hs : s.length ≤ 1000) (hX : setR s = (x, i, e)) {K : CV → Heap → Prop}
  (k : ∀ c1 h1, setC.rep h1 (From h) c1 x → c1.length = 3 → c1.all CV.scalar = true → Keep NoneOf h h1 → K (.tup [.agg c1, .int .i64 i, .int .i64 e]) h1) : WF p 252 [.str s] h K := by
 refine (textParse_spec lp (by omega) fun ls hl l hm => by have := (lines_bnd hl).2 l hm; omega).mono ?_
 rw [hX]
 rintro r h1 ⟨c1, rfl, r1, k1⟩
 exact k c1 h1 r1 (setC.len r1) (setC.flat r1) k1
set_option maxRecDepth 100000 in
theorem known247 (lp : LP p) (hp : p.pr 247 = none) {h : Heap} : WF p 247 [] h fun r h' => r = .bool true ∧ Keep NoneOf h h' := by
 refine WF_of (by rw [lp.pg]; exact S.pg247) hp ?_
 show W p S.b247 _ _ (retQ [.t 0] _)
 unfold S.b247
 have hca : ∀ l, (CV.agg l).cells = l := fun _ => rfl
 simp
 refine (two_spec lp).mono ?_
 rintro r h1 ⟨k1, d, rfl, rd⟩
 try simp
 refine (print_spec lp rd two_sm.Sane two_sm.fine).mono ?_
 rintro r h2 ⟨rfl, k2⟩
 rw [two_text]
 try simp
 refine readCell lp (by decide) two_read fun c1 h3 r1 l1 f1 k3 => ?_
 have st1 := store_new (h := h3) (row := c1) (z := [.int .i64 0, .nils, .nils]) l1 f1
 have ff1 : fits (some 3) (.agg c1) = true := by simp [l1]
 have g1 := get_new (h := h3) (o := .arr c1 .tight)
 have kap1 := Keep.app NoneOf h3 [.arr c1 .tight]
 have r1' := setC.on r1 kap1
 simp [hca, ff1, st1]
 generalize hH1 : h3 ++ [Obj.arr c1 .tight] = H1 at *
 refine readCell lp (s := txt1) (by decide) bad1_read fun c2 h4 r2 l2 f2 k4 => ?_
 have st2 := store_new (h := h4) (row := c2) (z := [.int .i64 0, .nils, .nils]) l2 f2
 have ff2 : fits (some 3) (.agg c2) = true := by simp [l2]
 have kap2 := Keep.app NoneOf h4 [.arr c2 .tight]
 simp [hca, ff2, st2]
 generalize hH2 : h4 ++ [Obj.arr c2 .tight] = H2 at *
 refine readCell lp (s := txt2) (by decide) bad2_read fun c3 h5 r3 l3 f3 k5 => ?_
 have st3 := store_new (h := h5) (row := c3) (z := [.int .i64 0, .nils, .nils]) l3 f3
 have ff3 : fits (some 3) (.agg c3) = true := by simp [l3]
 have kap3 := Keep.app NoneOf h5 [.arr c3 .tight]
 simp [hca, ff3, st3]
 generalize hH3 : h5 ++ [Obj.arr c3 .tight] = H3 at *
 refine readCell lp (s := []) (by decide) bad3_read fun c4 h6 r4 l4 f4 k6 => ?_
 have st4 := store_new (h := h6) (row := c4) (z := [.int .i64 0, .nils, .nils]) l4 f4
 have ff4 : fits (some 3) (.agg c4) = true := by simp [l4]
 have kap4 := Keep.app NoneOf h6 [.arr c4 .tight]
 simp [hca, ff4, st4]
 generalize hH4 : h6 ++ [Obj.arr c4 .tight] = H4 at *
 refine readCell lp (s := txt4) (by decide) bad4_read fun c5 h7 r5 l5 f5 k7 => ?_
 have st5 := store_new (h := h7) (row := c5) (z := [.int .i64 0, .nils, .nils]) l5 f5
 have ff5 : fits (some 3) (.agg c5) = true := by simp [l5]
 have kap5 := Keep.app NoneOf h7 [.arr c5 .tight]
 have KK := ((((((((k4.trans kap2).trans k5).trans kap3).trans k6).trans kap4).trans k7).trans kap5))
 have w1 := ldw (KK.at g1 id) l1
 have K0 := (((k1.trans k2).trans k3).trans kap1).trans KK
 have r10 := setC.on r1' KK
 simp [hca, ff5, st5]
 generalize hH5 : h7 ++ [Obj.arr c5 .tight] = H5 at *
 have hw0 : IntKind.i64.wrap 0 = 0 := rfl
 simp [txt0, w1, hw0]
 refine (setOf_spec lp.pg (lp.no ⟨rfl, rfl⟩) (lp.no ⟨rfl, rfl⟩) (lp.no ⟨rfl, rfl⟩) r10 two_sm.Fit).mono ?_
 rintro r h8 ⟨k8, d8, rfl, rd8⟩
 try simp
 refine (two_spec lp).mono ?_
 rintro r h9 ⟨k9, d9, rfl, rd9⟩
 try simp
 refine (setOf_spec lp.pg (lp.no ⟨rfl, rfl⟩) (lp.no ⟨rfl, rfl⟩) (lp.no ⟨rfl, rfl⟩) rd9 two_sm.Fit).mono ?_
 rintro r h10 ⟨k10, d10, rfl, rd10⟩
 try simp
 refine (sameSet_spec lp (setC.on (setC.on rd8 k9) k10) rd10 two_sm.Sane).mono ?_
 rintro r h11 ⟨rfl, k11⟩
 simp
 exact (((K0.trans k8).trans k9).trans k10).trans k11
theorem textTells_law (lp : LP p) (hp : p.pr 247 = none) {x : SetV} {c : List CV} {h : Heap} {P : Nat → Prop} (rx : setC.rep h P c x) (ok : okSet x) : WF p 246 [.agg c] h fun r _ => r = .bool true := by
 refine WF_of (by rw [lp.pg]; exact S.pg246) (lp.no ⟨rfl, rfl⟩) ?_
 show W p S.b246 _ _ (retQ [.t 2] _)
 unfold S.b246
 have hca : ∀ l, (CV.agg l).cells = l := fun _ => rfl
 have kap := Keep.app NoneOf h [.arr c .tight]
 have g0 := get_new (h := h) (o := .arr c .tight)
 have l0 : c.length = 3 := setC.len rx
 have r0 := setC.on rx kap
 simp [hca]
 refine (known247 lp hp).mono ?_
 rintro r H ⟨rfl, k0⟩
 have g0 := k0.at g0 id
 have r0 := setC.on r0 k0
 have w0 := ldw g0 l0
 simp [w0]
 refine (few_spec lp r0).mono ?_
 rintro r h1 ⟨rfl, k1⟩
 cases hF : FewS x with
 | false => simp
 | true =>
   have ff := few_of ok hF
   have w1 := ldw (k1.at g0 id) l0
   simp [w1]
   refine (setTo_spec lp.pg (lp.no ⟨rfl, rfl⟩) (lp.no ⟨rfl, rfl⟩) (lp.no ⟨rfl, rfl⟩) (setC.on r0 k1) ff.fit).mono ?_
   rintro r h2 ⟨k2, d, rfl, rd⟩
   try simp
   refine (print_spec lp rd ff.sane ff.fine).mono ?_
   rintro r h3 ⟨rfl, k3⟩
   have w3 := ldw (((k1.trans k2).trans k3).at g0 id) l0
   simp [w3]
   refine (refPrint_spec lp (setC.on r0 ((k1.trans k2).trans k3)) ff.sane ff.fine).mono ?_
   rintro r h4 ⟨rfl, k4⟩
   by_cases he : (setP x).2 = 0
   ·have hpr : printP x = (linesOf (setLines x), 0) := by unfold printP; rw [if_pos he]
    obtain ⟨_, sk⟩ := setOk he
    obtain ⟨t1, t2⟩ := setTold_len sk ff.fine
    have hback := setR_back he ff.fine
    rw [hpr]
    simp
    refine (textParse_spec lp (by omega) t2).mono ?_
    rw [hback]
    rintro r h5 ⟨c5, rfl, r5, k5⟩
    have r5 : setC.rep h5 (From h4) c5 x := r5
    have l5 : c5.length = 3 := setC.len r5
    have st5 := store_new (h := h5) (row := c5) (z := [.int .i64 0, .nils, .nils]) l5 (setC.flat r5)
    have g5 := get_new (h := h5) (o := .arr c5 .tight)
    have kap5 := Keep.app NoneOf h5 [Obj.arr c5 .tight]
    have K := (((k1.trans k2).trans k3).trans k4).trans k5
    have g06 := kap5.at (K.at g0 id) id
    have r06 := setC.on (setC.on r0 K) kap5
    have r6 := setC.on r5 kap5
    have f5 : fits (some 3) (.agg c5) = true := by simp [l5]
    simp [hca, f5, st5]
    generalize hH6 : h5 ++ [Obj.arr c5 .tight] = H6 at *
    have w5 := ldw g5 l5
    have w06 := ldw g06 l0
    simp [w5, w06]
    refine WO_re (by simp) ?_
    simp
    refine (setOf_spec lp.pg (lp.no ⟨rfl, rfl⟩) (lp.no ⟨rfl, rfl⟩) (lp.no ⟨rfl, rfl⟩) r6 ff.fit).mono ?_
    rintro r h7 ⟨k7, d7, rfl, rd7⟩
    have w07 := ldw (k7.at g06 id) l0
    refine ⟨fun c => by simp [recheckB, wanted, Env.get, cls, evOp, Opd.ev, withH, CV.eqb, w07, CV.eqb_refl, CV.eqbL_refl], ?_⟩
    refine (sameSet_spec lp rd7 (setC.on r06 k7) ff.sane).mono ?_
    rintro r h8 ⟨rfl, k8⟩
    simp
   ·have hpr : printP x = ([], (setP x).2) := by unfold printP; rw [if_neg he]
    rw [hpr]
    simp [he]
end Go.Cl
