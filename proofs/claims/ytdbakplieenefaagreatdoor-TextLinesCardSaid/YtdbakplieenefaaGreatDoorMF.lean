/-
  Texts laid together: ATextW ATextL ATextK ATextM.
-/
import Derived.Test.YtdbakplieenefaaGreatDoorME
import Derived.Test.YtdbakplieenefaaGreatDoorM8
import Derived.Test.YtdbakplieenefaaGreatDoorM5
namespace Go.Cl
open Go
set_option linter.unusedSimpArgs false
set_option linter.unusedVariables false
set_option maxHeartbeats 2000000
variable {p : PP}
def fewT (t : TaskV) : Bool := FewP t.prog && decide (t.name.length ≤ 50)
def FewS (x : SetV) : Bool := decide (x.tasks.length ≤ 20) && (decide (x.chans.length ≤ 20) && x.tasks.all fewT)
def FwI (b0 : Nat) (x : SetV) (h : Heap) (m : Nat) (e : Env) (h' : Heap) : Prop :=
 ∃ i : Nat, i ≤ x.tasks.length ∧ m = x.tasks.length - i ∧ e = [(1, .ptr b0 0), (3, .int .i64 i)] ∧ Keep NoneOf h h' ∧ x.tasks.all fewT = (x.tasks.drop i).all fewT
theorem few_spec (lp : LP p) {h : Heap} {P : Nat → Prop} {x : SetV} {c : List CV} (rx : setC.rep h P c x) :
  WF p 248 [.agg c] h fun r h' => r = .bool (FewS x) ∧ Keep NoneOf h h' := by
 refine WF_of (by rw [lp.pg]; exact S.pg248) (lp.no ⟨rfl, rfl⟩) ?_
 show W p S.b248 _ _ (retQ [.t 2] _)
 unfold S.b248
 have kap := Keep.app NoneOf h [.arr c .tight]
 have gC := get_new (h := h) (o := .arr c .tight)
 obtain ⟨cv, tv, hc0, sc, st⟩ := rx
 have c1 : c[1]? = some cv := by subst hc0; rfl
 have c2 : c[2]? = some tv := by subst hc0; rfl
 have hca : ∀ l, (CV.agg l).cells = l := fun _ => rfl
 have sc := sc.on kap
 have st := st.on kap
 have lC := ld gC
 have nc := sc.len (by decide)
 have nt := st.len (by decide)
 by_cases e1 : 20 < x.tasks.length
 ·have e1' : (20 : Int) < x.tasks.length := by omega
  have hF : FewS x = false := by simp [FewS]; omega
  simp [hca, lC, c2, nt, e1, e1', hF]
  exact kap
 ·by_cases e2 : 20 < x.chans.length
  ·have e1' : ¬ (20 : Int) < x.tasks.length := by omega
   have e2' : (20 : Int) < x.chans.length := by omega
   have hF : FewS x = false := by simp [FewS]; omega
   simp [hca, lC, c1, c2, nt, nc, e1, e1', e2, e2', hF]
   exact kap
  ·have e1' : ¬ (20 : Int) < x.tasks.length := by omega
   have e2' : ¬ (20 : Int) < x.chans.length := by omega
   have hF : FewS x = x.tasks.all fewT := by
    unfold FewS
    rw [show decide (x.tasks.length ≤ 20) = true by simp; omega, show decide (x.chans.length ≤ 20) = true by simp; omega]
    simp
   rw [hF]
   simp [hca, lC, c1, c2, nt, nc, e1, e1', e2, e2']
   refine W_loop (FwI h.length x (h ++ [.arr c .tight])) ?_ x.tasks.length ⟨0, by omega, by omega, rfl, Keep.refl _ _, rfl⟩
   rintro m e H1 ⟨i, hi, rfl, rfl, k1, hg⟩
   have gC1 := k1.at gC id
   have lC := ld gC1
   have st1 := st.on k1
   have nt := st1.len (by decide)
   by_cases hie : i = x.tasks.length
   ·subst hie
    rw [List.drop_length] at hg
    rw [hg]
    simp [lC, c2, nt]
    exact kap.trans k1
   ·have hlt : i < x.tasks.length := by omega
    have hlt' : (i : Int) < x.tasks.length := by omega
    have hw : IntKind.i64.wrap ((i : Int) + 1) = ((i + 1 : Nat) : Int) := by rw [w64 (by omega) (by omega)]; omega
    obtain ⟨b0, o0, row, x1, x2, x3, pv, hrow, sp⟩ := st1.row (k := .i64) (by decide) hlt
    have y0 := x3 0 (by decide)
    have y4 := x3 4 (by decide)
    rw [hrow] at y0 y4
    have y0 : loadAt H1 b0 o0 none = some (.str x.tasks[i].name) := y0
    have y4 : loadAt H1 b0 (o0 + 4) none = some pv := y4
    simp only [taskC] at x1
    rw [List.drop_eq_getElem_cons hlt, List.all_cons] at hg
    rw [hg]
    simp [lC, c2, nt, hlt', x1, y4]
    refine (progFew_spec lp.pg (lp.no ⟨rfl, rfl⟩) (lp.no ⟨rfl, rfl⟩) sp).mono ?_
    rintro r H2 ⟨rfl, k2⟩
    have lC2 := ld (k2.at gC1 id)
    have y0' := load_on y0 k2 none o0
    rw [y0] at y0'
    have hfe : fewT x.tasks[i] = (FewP x.tasks[i].prog && decide (x.tasks[i].name.length ≤ 50)) := rfl
    cases hp : FewP x.tasks[i].prog with
    | false =>
      rw [hfe, hp]
      simp
      exact (kap.trans k1).trans k2
    | true =>
      by_cases hn : 50 < x.tasks[i].name.length
      ·have hn' : (50 : Int) < x.tasks[i].name.length := by omega
       have hd : decide (x.tasks[i].name.length ≤ 50) = false := by simp; omega
       rw [hfe, hp, hd]
       simp [lC2, c2, x1, y0', hn, hn']
       exact (kap.trans k1).trans k2
      ·have hn' : ¬ (50 : Int) < x.tasks[i].name.length := by omega
       have hd : decide (x.tasks[i].name.length ≤ 50) = true := by simp; omega
       rw [hfe, hp, hd] at hg
       simp only [Bool.and_self, Bool.true_and] at hg
       simp [lC2, c2, x1, y0', hn, hn', hw]
       exact ⟨x.tasks.length - (i + 1), by omega, i + 1, by omega, rfl, rfl, k1.trans k2, hg⟩
theorem setGo_sm : ∀ (ls : List Wd) (i : Nat) (s : SetV), s.Sm → (∀ l ∈ ls, l.length ≤ 100000) → (setGo i ls s).1.Sm
 | [], i, s, m, _ => by
   rw [setGo]
   split
   ·exact m
   ·exact set0_sm
 | l :: ls, i, s, m, h => by
   rw [setGo]
   split
   ·exact setGo_sm ls _ _ (lineSR_sm m (h l (by simp))) fun x hx => h x (by simp [hx])
   ·exact set0_sm
theorem setR_sm {s : Wd} (h : ∀ ls, linesP s = some ls → ∀ l ∈ ls, l.length ≤ 100000) : (setR s).1.Sm := by
 unfold setR
 cases hl : linesP s with
 | none => exact set0_sm
 | some ls =>
   cases ls with
   | nil => exact set0_sm
   | cons l ls => exact setGo_sm _ _ _ set0_sm fun x hx => h _ hl x hx
theorem SetV.Sm.Fit {s : SetV} (m : s.Sm) : s.Fit := ⟨by have := m.c; omega, by have := m.t; omega, fun t ht => ⟨by have := (m.p t ht).1; omega, fun o ho => ((m.p t ht).2.2 o ho).l⟩⟩
def chanTy : Ty := .cons (.int .i64) (.cons (.int .i64) .nil)
def taskTy : Ty := .cons .str (.cons (.int .i64) (.cons (.int .i64) (.cons (.int .i64) (.cons (.sl opTy) .nil))))
def setTy : Ty := .cons (.int .i64) (.cons (.sl chanTy) (.cons (.sl taskTy) .nil))
def okChan (x : ChanV) : Prop := inI x.room ∧ inI x.server
def okTask (x : TaskV) : Prop := x.name.length ≤ maxLen ∧ inI x.per ∧ inI x.dl ∧ inI x.bud ∧ x.prog.length ≤ maxLen ∧ ∀ o ∈ x.prog, okOp o
def okSet (x : SetV) : Prop := inI x.locks ∧ (∀ c ∈ x.chans, okChan c) ∧ ∀ t ∈ x.tasks, okTask t
theorem tellsChan : Tells chanTy chanC okChan := by
 refine ⟨rfl, fun h c s => ?_⟩
 obtain ⟨c1, c', rfl, s1, s⟩ := sh_cons s
 obtain ⟨c2, c', rfl, s2, s⟩ := sh_cons s
 have e := sh_nil s
 subst e
 obtain ⟨a, rfl, ha⟩ := sh_int s1
 obtain ⟨b, rfl, hb⟩ := sh_int s2
 exact ⟨⟨a, b⟩, rfl, ha, hb⟩
theorem tellsTask : Tells taskTy taskC okTask := by
 refine ⟨rfl, fun h c s => ?_⟩
 obtain ⟨c1, c', rfl, s1, s⟩ := sh_cons s
 obtain ⟨c2, c', rfl, s2, s⟩ := sh_cons s
 obtain ⟨c3, c', rfl, s3, s⟩ := sh_cons s
 obtain ⟨c4, c', rfl, s4, s⟩ := sh_cons s
 obtain ⟨c5, c', rfl, s5, s⟩ := sh_cons s
 have e := sh_nil s
 subst e
 obtain ⟨a, rfl, ha⟩ := (show ∃ s, c1 = [.str s] ∧ s.length ≤ maxLen from s1)
 obtain ⟨b, rfl, hb⟩ := sh_int s2
 obtain ⟨d, rfl, hd⟩ := sh_int s3
 obtain ⟨f, rfl, hf⟩ := sh_int s4
 obtain ⟨v, l, rfl, hv, hl, hw⟩ := sh_sl tellsOp s5
 exact ⟨⟨a, b, d, f, l⟩, ⟨v, rfl, hv⟩, ha, hb, hd, hf, hl, hw⟩
theorem tellsSet : Tells setTy setC okSet := by
 refine ⟨rfl, fun h c s => ?_⟩
 obtain ⟨c1, c', rfl, s1, s⟩ := sh_cons s
 obtain ⟨c2, c', rfl, s2, s⟩ := sh_cons s
 obtain ⟨c3, c', rfl, s3, s⟩ := sh_cons s
 have e := sh_nil s
 subst e
 obtain ⟨a, rfl, ha⟩ := sh_int s1
 obtain ⟨v, l, rfl, hv, hl, hw⟩ := sh_sl tellsChan s2
 obtain ⟨v2, l2, rfl, hv2, hl2, hw2⟩ := sh_sl tellsTask s3
 exact ⟨⟨a, l, l2⟩, ⟨v, v2, rfl, hv, hv2⟩, ha, hw, hw2⟩
structure FewFacts (x : SetV) : Prop where
 sane : x.Sane
 fit : x.Fit
 fine : x.fine
theorem few_of {x : SetV} (ok : okSet x) (f : FewS x = true) : FewFacts x := by
 simp only [FewS, Bool.and_eq_true, decide_eq_true_eq, List.all_eq_true, fewT, FewP] at f
 obtain ⟨f1, f2, f3⟩ := f
 exact ⟨⟨fun t ht => ⟨by have := (f3 t ht).1.1; simp [big]; omega, fun o ho => by have := (f3 t ht).1.2 o ho; omega, by have := (f3 t ht).2; omega⟩, by simp [big]; omega, by simp [big]; omega⟩,
  ⟨by omega, by omega, fun t ht => ⟨by have := (f3 t ht).1.1; omega, fun o ho => by have := (f3 t ht).1.2 o ho; omega⟩⟩,
  fun t ht o ho => ((ok.2.2 t ht).2.2.2.2.2 o ho).fine⟩
theorem setTold_len {x : SetV} (k : SetOk x) (f : x.fine) : (linesOf (setLines x)).length ≤ 240600 ∧ ∀ ls, linesP (linesOf (setLines x)) = some ls → ∀ l ∈ ls, l.length ≤ 100000 := by
 obtain ⟨a, b⟩ := setLines_len k
 have := linesOf_len b
 have h2 := Nat.mul_le_mul_right 401 a
 refine ⟨by omega, fun ls hl l hm => ?_⟩
 rw [lines_of (setLines_no10 k f)] at hl
 cases hl
 have := b l hm
 omega
def uA : OpV := ⟨1, 1, 0, 0, []⟩
def uB : OpV := ⟨2, 0, 0, 0, []⟩
def uC : OpV := ⟨3, 0, 0, 0, []⟩
def uD : OpV := ⟨1, 4, 0, 0, []⟩
def oL (x : OpV) : List CV := [.int .i64 x.kind, .int .i64 x.n, .int .i64 x.v, .int .i64 x.wait, .nils]
def twA : TaskV := ⟨[102, 97, 115, 116], 10, 8, 3, [uA, uB, uA, uC]⟩
def twB : TaskV := ⟨[115, 108, 111, 119], 20, 20, 6, [uB, uD, uC, uA]⟩
def twoS : SetV := ⟨1, [], [twA, twB]⟩
theorem op_rows {h : Heap} {P : Nat → Prop} : ∀ (l : List OpV), (∀ o ∈ l, o.cases = []) → Rows opC h P (l.flatMap oL) l
 | [], _ => Rows.nil
 | o :: l, hl => by
   rw [List.flatMap_cons, show o :: l = [o] ++ l from rfl]
   refine Rows.append (Rows.one (e := opC) (c := oL o) ⟨.nils, rfl, ?_⟩) (op_rows l fun x hx => hl x (by simp [hx]))
   rw [hl o (by simp)]
   exact Sl.nil
theorem own_sl {α : Type} {e : Cod α} {h : Heap} {P : Nat → Prop} {b n : Nat} {l : List α} {cells : List CV} (g : h[b]? = some (.arr cells .tight)) (r : Rows e h P cells l) (hn : n = l.length) (hb : P b) : Sl e h P (.sl b 0 n n) l := by
 subst hn
 have m : Mine h e.n (.sl b 0 l.length l.length) cells := .inr ⟨b, l.length, .tight, rfl, r.1, .inl rfl, g⟩
 exact ⟨cells, m.read, ⟨m.ok, fun x hx => by simp [CV.blk] at hx; subst hx; exact hb⟩, r⟩
theorem two_spec (lp : LP p) {h : Heap} : WF p 52 [] h fun r h' => Keep NoneOf h h' ∧ ∃ d, r = .agg d ∧ setC.rep h' (From h) d twoS := by
 refine WF_of (by rw [lp.pg]; exact S.pg52) (lp.no ⟨rfl, rfl⟩) ?_
 show W p S.b52 _ _ (retQ [.cell (some 3) 0] _)
 unfold S.b52
 have hca : ∀ l, (CV.agg l).cells = l := fun _ => rfl
 have hlt : h.length < h.length + 3 + 2 := by omega
 simp [fillC, splice, hca, fits, storeAt, loadAt, List.getElem?_append, List.set_append, hlt]
 refine ⟨Keep.app _ _ _, .nils, .sl (h.length + 5) 0 2 2, rfl, Sl.nil, ?_⟩
 refine own_sl (cells := tkL twA (.sl (h.length + 1) 0 4 4) ++ tkL twB (.sl (h.length + 3) 0 4 4)) (by simp [tkL, twA, twB]) ?_ rfl (by simp only [From]; omega)
 refine Rows.append (Rows.one (e := taskC) ⟨_, rfl, ?_⟩) (Rows.one (e := taskC) ⟨_, rfl, ?_⟩)
 ·exact own_sl (cells := [uA, uB, uA, uC].flatMap oL) (by simp [oL, uA, uB, uC]) (op_rows _ (by simp [uA, uB, uC])) rfl (by simp only [From]; omega)
 ·exact own_sl (cells := [uB, uD, uC, uA].flatMap oL) (by simp [oL, uA, uB, uC, uD]) (op_rows _ (by simp [uA, uB, uC, uD])) rfl (by simp only [From]; omega)
def txt0 : Wd := [108, 111, 99, 107, 115, 32, 49, 10, 116, 97, 115, 107, 32, 102, 97, 115, 116, 32, 49, 48, 32, 56, 32, 51, 10, 114, 117, 110, 32, 49, 10, 108, 111, 99, 107, 32, 48, 10, 114, 117, 110, 32, 49, 10, 117, 110, 108, 111, 99, 107, 32, 48, 10, 116, 97, 115, 107, 32, 115, 108, 111, 119, 32, 50, 48, 32, 50, 48, 32, 54, 10, 108, 111, 99, 107, 32, 48, 10, 114, 117, 110, 32, 52, 10, 117, 110, 108, 111, 99, 107, 32, 48, 10, 114, 117, 110, 32, 49, 10]
def txt1 : Wd := [108, 111, 99, 107, 115, 32, 48, 10, 99, 104, 97, 110, 32, 49, 32, 45, 10, 116, 97, 115, 107, 32, 97, 32, 53, 32, 53, 32, 53, 10, 114, 117, 110, 32, 49, 10, 99, 104, 97, 110, 32, 49, 32, 45, 10]
def txt2 : Wd := [108, 111, 99, 107, 115, 32, 48, 10, 114, 117, 110, 32, 49, 10]
def txt4 : Wd := [108, 111, 99, 107, 115, 32, 48, 10, 116, 97, 115, 107, 32, 97, 32, 53, 32, 54, 32, 53, 10, 114, 117, 110, 32, 49, 10]
theorem two_text : printP twoS = (txt0, 0) := by decide +kernel
theorem two_read : setR txt0 = (twoS, 0, 0) := by decide +kernel
theorem bad1_read : setR txt1 = (set0, 4, 2) := by decide +kernel
theorem bad2_read : setR txt2 = (set0, 1, 2) := by decide +kernel
theorem bad3_read : setR [] = (set0, 0, 2) := by decide +kernel
theorem bad4_read : setR txt4 = (set0, 0, 1) := by decide +kernel
theorem two_sm : twoS.Sm := by
 have h := setR_sm (s := txt0) fun ls hl l hm => by
  have := (lines_bnd hl).2 l hm
  have h2 : txt0.length = 99 := by decide
  omega
 rwa [two_read] at h
theorem readCell (lp : LP p) {s : Wd} {h : Heap} {x : SetV} {i e : Int} (hs : s.length ≤ 1000) (hX : setR s = (x, i, e)) {K : CV → Heap → Prop}
  (k : ∀ c1 h1, setC.rep h1 (From h) c1 x → c1.length = 3 → c1.all CV.scalar = true → Keep NoneOf h h1 → K (.tup [.agg c1, .int .i64 i, .int .i64 e]) h1) : WF p 252 [.str s] h K := by
 refine (textParse_spec lp (by omega) fun ls hl l hm => by have := (lines_bnd hl).2 l hm; omega).mono ?_
 rw [hX]
 rintro r h1 ⟨c1, rfl, r1, k1⟩
 exact k c1 h1 r1 (setC.len r1) (setC.flat r1) k1
set_option maxRecDepth 100000 in
theorem known247 (lp : LP p) (hp : p.pr 247 = none) {h : Heap} : WF p 247 [] h fun r h' => r = .bool true ∧ Keep NoneOf h h' := by
 refine WF_of (by rw [lp.pg]; exact S.pg247) hp ?_
 show W p S.b247 _ _ (retQ [.t 0] _)
 unfold S.b247
 have hca : ∀ l, (CV.agg l).cells = l := fun _ => rfl
 simp
 refine (two_spec lp).mono ?_
 rintro r h1 ⟨k1, d, rfl, rd⟩
 try simp
 refine (print_spec lp rd two_sm.Sane two_sm.fine).mono ?_
 rintro r h2 ⟨rfl, k2⟩
 rw [two_text]
 try simp
 refine readCell lp (by decide) two_read fun c1 h3 r1 l1 f1 k3 => ?_
 have st1 := store_new (h := h3) (row := c1) (z := [.int .i64 0, .nils, .nils]) l1 f1
 have ff1 : fits (some 3) (.agg c1) = true := by simp [l1]
 have g1 := get_new (h := h3) (o := .arr c1 .tight)
 have kap1 := Keep.app NoneOf h3 [.arr c1 .tight]
 have r1' := setC.on r1 kap1
 simp [hca, ff1, st1]
 generalize hH1 : h3 ++ [Obj.arr c1 .tight] = H1 at *
 refine readCell lp (s := txt1) (by decide) bad1_read fun c2 h4 r2 l2 f2 k4 => ?_
 have st2 := store_new (h := h4) (row := c2) (z := [.int .i64 0, .nils, .nils]) l2 f2
 have ff2 : fits (some 3) (.agg c2) = true := by simp [l2]
 have kap2 := Keep.app NoneOf h4 [.arr c2 .tight]
 simp [hca, ff2, st2]
 generalize hH2 : h4 ++ [Obj.arr c2 .tight] = H2 at *
 refine readCell lp (s := txt2) (by decide) bad2_read fun c3 h5 r3 l3 f3 k5 => ?_
 have st3 := store_new (h := h5) (row := c3) (z := [.int .i64 0, .nils, .nils]) l3 f3
 have ff3 : fits (some 3) (.agg c3) = true := by simp [l3]
 have kap3 := Keep.app NoneOf h5 [.arr c3 .tight]
 simp [hca, ff3, st3]
 generalize hH3 : h5 ++ [Obj.arr c3 .tight] = H3 at *
 refine readCell lp (s := []) (by decide) bad3_read fun c4 h6 r4 l4 f4 k6 => ?_
 have st4 := store_new (h := h6) (row := c4) (z := [.int .i64 0, .nils, .nils]) l4 f4
 have ff4 : fits (some 3) (.agg c4) = true := by simp [l4]
 have kap4 := Keep.app NoneOf h6 [.arr c4 .tight]
 simp [hca, ff4, st4]
 generalize hH4 : h6 ++ [Obj.arr c4 .tight] = H4 at *
 refine readCell lp (s := txt4) (by decide) bad4_read fun c5 h7 r5 l5 f5 k7 => ?_
 have st5 := store_new (h := h7) (row := c5) (z := [.int .i64 0, .nils, .nils]) l5 f5
 have ff5 : fits (some 3) (.agg c5) = true := by simp [l5]
 have kap5 := Keep.app NoneOf h7 [.arr c5 .tight]
 have KK := ((((((((k4.trans kap2).trans k5).trans kap3).trans k6).trans kap4).trans k7).trans kap5))
 have w1 := ldw (KK.at g1 id) l1
 have K0 := (((k1.trans k2).trans k3).trans kap1).trans KK
 have r10 := setC.on r1' KK
 simp [hca, ff5, st5]
 generalize hH5 : h7 ++ [Obj.arr c5 .tight] = H5 at *
 have hw0 : IntKind.i64.wrap 0 = 0 := rfl
 simp [txt0, w1, hw0]
 refine (setOf_spec lp.pg (lp.no ⟨rfl, rfl⟩) (lp.no ⟨rfl, rfl⟩) (lp.no ⟨rfl, rfl⟩) r10 two_sm.Fit).mono ?_
 rintro r h8 ⟨k8, d8, rfl, rd8⟩
 try simp
 refine (two_spec lp).mono ?_
 rintro r h9 ⟨k9, d9, rfl, rd9⟩
 try simp
 refine (setOf_spec lp.pg (lp.no ⟨rfl, rfl⟩) (lp.no ⟨rfl, rfl⟩) (lp.no ⟨rfl, rfl⟩) rd9 two_sm.Fit).mono ?_
 rintro r h10 ⟨k10, d10, rfl, rd10⟩
 try simp
 refine (sameSet_spec lp (setC.on (setC.on rd8 k9) k10) rd10 two_sm.Sane).mono ?_
 rintro r h11 ⟨rfl, k11⟩
 simp
 exact (((K0.trans k8).trans k9).trans k10).trans k11
def TlA (cut : Int) (more : Wd) (b : Nat) (A : Wd) (h : Heap) (m : Nat) (e : Env) (h' : Heap) : Prop :=
 ∃ i : Nat, i ≤ A.length ∧ m = A.length - i ∧ e = [(1, .int .u8 cut), (2, .str more), (3, .ptr b 0), (9, .str A), (11, .int .i64 (ends (A.take i))), (12, .int .i64 i)] ∧ h' = h
def TlB (k0 : Nat) (more : Wd) (b : Nat) (A : Wd) (h : Heap) (m : Nat) (e : Env) (h' : Heap) : Prop :=
 ∃ i k a : Nat, i ≤ A.length ∧ m = A.length - i ∧ e = [(2, .str more), (3, .ptr b 0), (9, .str A), (13, .int .i64 k), (14, .int .i64 a), (15, .int .i64 i)] ∧ h' = h ∧ a ≤ i ∧ ends (A.take i) + k = k0
theorem textLines_law (lp : LP p) (hp : p.pr 247 = none) {x : SetV} {c : List CV} {cut : Int} {more : Wd} {h : Heap} {P : Nat → Prop} (rx : setC.rep h P c x) (ok : okSet x) (hc0 : 0 ≤ cut) (hc1 : cut ≤ 255) : WF p 256 [.agg c, .int .u8 cut, .str more] h fun r _ => r = .bool true := by
 refine WF_of (by rw [lp.pg]; exact S.pg256) (lp.no ⟨rfl, rfl⟩) ?_
 show W p S.b256 _ _ (retQ [.t 6] _)
 unfold S.b256
 have hca : ∀ l, (CV.agg l).cells = l := fun _ => rfl
 have kap := Keep.app NoneOf h [.arr c .tight]
 have g0 := get_new (h := h) (o := .arr c .tight)
 have l0 : c.length = 3 := setC.len rx
 have r0 := setC.on rx kap
 simp [hca]
 refine (known247 lp hp).mono ?_
 rintro r H ⟨rfl, kk0⟩
 have g0 := kk0.at g0 id
 have r0 := setC.on r0 kk0
 have w0 := ldw g0 l0
 simp [w0]
 refine (refSet_spec lp r0).mono ?_
 rintro r h1 ⟨rfl, k1⟩
 have w1 := ldw (k1.at g0 id) l0
 simp [w1]
 refine (few_spec lp (setC.on r0 k1)).mono ?_
 rintro r h2 ⟨rfl, k2⟩
 cases hF : FewS x with
 | false => simp
 | true =>
   have ff := few_of ok hF
   by_cases he : (setP x).2 = 0
   ·by_cases hm : 100 < more.length
    ·have hm' : (100 : Int) < more.length := by omega
     simp [he, hm, hm']
    ·have hm' : ¬ (100 : Int) < more.length := by omega
     have k12 := k1.trans k2
     have w2 := ldw (k12.at g0 id) l0
     simp [he, hm, hm', w2]
     refine (setTo_spec lp.pg (lp.no ⟨rfl, rfl⟩) (lp.no ⟨rfl, rfl⟩) (lp.no ⟨rfl, rfl⟩) (setC.on r0 k12) ff.fit).mono ?_
     rintro r h3 ⟨k3, d, rfl, rd⟩
     try simp
     refine (print_spec lp rd ff.sane ff.fine).mono ?_
     rintro r h4 ⟨rfl, k4⟩
     have hpr : printP x = (linesOf (setLines x), 0) := by unfold printP; rw [if_pos he]
     obtain ⟨_, sk⟩ := setOk he
     obtain ⟨t1, t2⟩ := setTold_len sk ff.fine
     have hno := setLines_no10 sk ff.fine
     have hslen := (setLines_len sk).2
     have hne : setLines x ≠ [] := by simp [setLines]
     have hpos := ends_of hne
     have hAo := fun (y : SetV) (s : Wd) (h : setR s = (y, 0, 0)) => setR_ok (t := s) (by rw [h])
     rw [hpr]
     generalize hA : linesOf (setLines x) = A at *
     have hel := ends_len A
     simp
     refine W_loop (TlA cut more h.length A h4) ?_ A.length ⟨0, by omega, by omega, rfl, rfl⟩
     rintro m e h5 ⟨i, hi, rfl, rfl, rfl⟩
     by_cases hie : i = A.length
     ·subst hie
      rw [List.take_length]
      have hz : ¬ ends A = 0 := by omega
      have hz' : ¬ (ends A : Int) = 0 := by omega
      obtain ⟨k0, hk0, hK⟩ : ∃ k0 : Nat, k0 < ends A ∧ (IntKind.i64.wrap cut).tmod (ends A : Int) = (k0 : Int) := by
       refine ⟨cut.toNat % ends A, Nat.mod_lt _ hpos, ?_⟩
       rw [w64 (by omega) (by omega)]
       obtain ⟨n, rfl⟩ := Int.eq_ofNat_of_zero_le hc0
       rfl
      simp [hz, hz', hK]
      refine W_loop (TlB k0 more h.length A h5) ?_ A.length ⟨0, k0, 0, by omega, by omega, rfl, rfl, by omega, by simp [ends]⟩
      rintro m e h6 ⟨i, k, a, hi, rfl, rfl, rfl, hai, hek⟩
      have hel2 := ends_le A i
      by_cases hgo : i < A.length ∧ 0 < k
      ·obtain ⟨hlt, hkp⟩ := hgo
       have hlt' : (i : Int) < A.length := by omega
       have hkp' : (0 : Int) < k := by omega
       have hnx := ends_next hlt
       have hw : IntKind.i64.wrap ((i : Int) + 1) = ((i + 1 : Nat) : Int) := by rw [w64 (by omega) (by omega)]; omega
       have hw2 : IntKind.i64.wrap ((k : Int) - 1) = ((k - 1 : Nat) : Int) := by rw [w64 (by omega) (by omega)]; omega
       by_cases hb : A[i] = 10
       ·rw [if_pos hb] at hnx
        obtain ⟨q, rfl⟩ : ∃ q, k = q + 1 := ⟨k - 1, by omega⟩
        have hwq : IntKind.i64.wrap (q : Int) = (q : Int) := w64 (by omega) (by omega)
        have hqp : (0 : Int) < (q : Int) + 1 := by omega
        simp [hlt, hlt', hqp, hb, hw, hwq]
        exact ⟨A.length - (i + 1), by omega, i + 1, q, i + 1, by omega, rfl, rfl, rfl, by omega, by omega⟩
       ·rw [if_neg hb] at hnx
        have hb2 : ¬ A[i].toNat = 10 := fun q => hb (UInt8.toNat_inj.1 q)
        have hb3 : ¬ (A[i].toNat : Int) = 10 := by omega
        simp [hlt, hlt', hkp, hkp', hb2, hb3, hw, hw2]
        exact ⟨A.length - (i + 1), by omega, i + 1, k, a, by omega, rfl, rfl, rfl, by omega, by omega⟩
      ·have haL : a < A.length := by
        by_cases haa : a < A.length
        ·exact haa
        ·exfalso
         have : i = A.length := by omega
         subst this
         rw [List.take_length] at hek
         omega
       have hsl : slStr A none (some (.int .i64 a)) = some (.str (A.take a)) := by
        simp only [slStr, bound]
        rw [if_pos ⟨by omega, by omega⟩]
        simp
       have hcnd : (i < A.length ∧ k = 0) ∨ ¬ i < A.length := by omega
       have hl1 : ∀ ls, linesP (A.take a) = some ls → ∀ l ∈ ls, l.length ≤ 100000 := fun ls hls l hl => by
        have := lines_pre ls (setLines x) (A.drop a) hno (linesP_no hls) (by rw [of_lines hls, hA, List.take_append_drop]) l hl
        have := hslen l this
        omega
       have hl2 : ∀ ls, linesP (A ++ (more ++ [10])) = some ls → ∀ l ∈ ls, l.length ≤ 100000 := fun ls hls l hl => by
        have q := lines_near (setLines x) ls (more ++ [10]) hno (linesP_no hls) (by rw [of_lines hls, hA]) l hl
        rcases q with q | q
        ·have := hslen l q; omega
        ·simp at q; omega
       have hm1 := setR_sm hl1
       have hm2 := setR_sm hl2
       have hx1 : (setR (A.take a)).2.2 = 0 → (setR (A.take a)).1 ≠ x := fun h0 hx => by
        have := setR_ok h0
        rw [hx, hpr] at this
        have := congrArg (fun q : Wd × Int => q.1.length) this
        simp at this
        omega
       have hx2 : (setR (A ++ (more ++ [10]))).2.2 = 0 → (setR (A ++ (more ++ [10]))).1 ≠ x := fun h0 hx => by
        have := setR_ok h0
        rw [hx, hpr] at this
        have := congrArg (fun q : Wd × Int => q.1.length) this
        simp at this
       have hs1 : (A.take a).length ≤ 10000000 := by simp; omega
       have hs2 : (A ++ (more ++ [10])).length ≤ 10000000 := by simp; omega
       have K6 := (k12.trans k3).trans k4
       have p1 := textParse_spec lp (h := h6) hs1 hl1
       have p2 := fun (hh : Heap) => textParse_spec lp (h := hh) hs2 hl2
       obtain ⟨Y, hY⟩ : ∃ Y, setR (A.take a) = Y := ⟨_, rfl⟩
       obtain ⟨y, i1, e1⟩ := Y
       obtain ⟨Z, hZ⟩ : ∃ Z, setR (A ++ (more ++ [10])) = Z := ⟨_, rfl⟩
       obtain ⟨z, i2, e2⟩ := Z
       rw [hY] at p1 hm1 hx1
       simp only [hZ] at p2 hm2 hx2
       have hm1 : y.Sm := hm1
       rcases hcnd with ⟨hia, hk00⟩ | hia
       have hlt' : (i : Int) < A.length := by omega
       simp [hia, hlt', hk00, hsl]
       rotate_left
       have hlt' : ¬ (i : Int) < A.length := by omega
       simp [hia, hlt', hsl]
       all_goals
        refine p1.mono ?_
        rintro r h7 ⟨c7, rfl, r7, k7⟩
        have r7 : setC.rep h7 (From h6) c7 y := r7
        have l7 : c7.length = 3 := setC.len r7
        have st7 := store_new (h := h7) (row := c7) (z := [.int .i64 0, .nils, .nils]) l7 (setC.flat r7)
        have g7 := get_new (h := h7) (o := .arr c7 .tight)
        have kap7 := Keep.app NoneOf h7 [.arr c7 .tight]
        have f7 : fits (some 3) (.agg c7) = true := by simp [l7]
        have r7' := setC.on r7 kap7
        have g07 := kap7.at (k7.at (K6.at g0 id) id) id
        have r07 := setC.on (setC.on (setC.on r0 K6) k7) kap7
        simp [hca, f7, st7, tOV_if]
        refine ⟨by omega, by omega, ?_⟩
        generalize hH7 : h7 ++ [Obj.arr c7 .tight] = H7 at *
        refine (p2 H7).mono ?_
        rintro r h8 ⟨c8, rfl, r8, k8⟩
        have r8 : setC.rep h8 (From H7) c8 z := r8
        have l8 : c8.length = 3 := setC.len r8
        have st8 := store_new (h := h8) (row := c8) (z := [.int .i64 0, .nils, .nils]) l8 (setC.flat r8)
        have g8 := get_new (h := h8) (o := .arr c8 .tight)
        have kap8 := Keep.app NoneOf h8 [.arr c8 .tight]
        have f8 : fits (some 3) (.agg c8) = true := by simp [l8]
        have r8' := setC.on r8 kap8
        have g08 := kap8.at (k8.at g07 id) id
        have g78 := kap8.at (k8.at g7 id) id
        have r08 := setC.on (setC.on r07 k8) kap8
        have r78 := setC.on (setC.on r7' k8) kap8
        simp [hca, f8, st8]
        generalize hH8 : h8 ++ [Obj.arr c8 .tight] = H8 at *
        have w08 := ldw g08 l0
        have w78 := ldw g78 l7
        have hz2 : z.Sm := hm2
        by_cases d1 : e1 = 0
        ·have hyx := hx1 d1
         simp [d1, w08, w78]
         refine WO_re (by simp) ?_
         simp
         refine (setOf_spec lp.pg (lp.no ⟨rfl, rfl⟩) (lp.no ⟨rfl, rfl⟩) (lp.no ⟨rfl, rfl⟩) r78 hm1.Fit).mono ?_
         rintro r h9 ⟨k9, d9, rfl, rd9⟩
         have w09 := ldw (k9.at g08 id) l0
         refine ⟨fun c => by simp [recheckB, wanted, Env.get, cls, evOp, Opd.ev, withH, CV.eqb, w09, CV.eqb_refl, CV.eqbL_refl], ?_⟩
         refine (sameSet_spec lp rd9 (setC.on r08 k9) hm1.Sane).mono ?_
         rintro r h10 ⟨rfl, k10⟩
         have k810 := k9.trans k10
         by_cases d2 : e2 = 0
         ·have hzx := hx2 d2
          have w010 := ldw (k810.at g08 id) l0
          have w810 := ldw (k810.at g8 id) l8
          simp [hyx, d2, w010, w810]
          refine WO_re (by simp) ?_
          simp
          refine (setOf_spec lp.pg (lp.no ⟨rfl, rfl⟩) (lp.no ⟨rfl, rfl⟩) (lp.no ⟨rfl, rfl⟩) (setC.on r8' k810) hz2.Fit).mono ?_
          rintro r h11 ⟨k11, d11, rfl, rd11⟩
          have w011 := ldw (k11.at (k810.at g08 id) id) l0
          refine ⟨fun c => by simp [recheckB, wanted, Env.get, cls, evOp, Opd.ev, withH, CV.eqb, w011, CV.eqb_refl, CV.eqbL_refl], ?_⟩
          refine (sameSet_spec lp rd11 (setC.on (setC.on r08 k810) k11) hz2.Sane).mono ?_
          rintro r h12 ⟨rfl, k12⟩
          simp [hzx]
         ·simp [hyx, d2]
          refine WO_re_f (by simp) ?_
          simp
        ·by_cases d2 : e2 = 0
         ·have hzx := hx2 d2
          have w88 := ldw g8 l8
          simp [d1]
          refine WO_re_f (by simp) ?_
          simp [d2, w08, w88]
          refine WO_re (by simp) ?_
          simp
          refine (setOf_spec lp.pg (lp.no ⟨rfl, rfl⟩) (lp.no ⟨rfl, rfl⟩) (lp.no ⟨rfl, rfl⟩) r8' hz2.Fit).mono ?_
          rintro r h11 ⟨k11, d11, rfl, rd11⟩
          have w011 := ldw (k11.at g08 id) l0
          refine ⟨fun c => by simp [recheckB, wanted, Env.get, cls, evOp, Opd.ev, withH, CV.eqb, w011, CV.eqb_refl, CV.eqbL_refl], ?_⟩
          refine (sameSet_spec lp rd11 (setC.on r08 k11) hz2.Sane).mono ?_
          rintro r h12 ⟨rfl, k12⟩
          simp [hzx]
         ·simp [d1]
          refine WO_re_f (by simp) ?_
          simp [d2]
          refine WO_re_f (by simp) ?_
          simp
     ·have hlt : i < A.length := by omega
      have hlt' : (i : Int) < A.length := by omega
      have hel2 := ends_le A (i + 1)
      have hel3 := ends_le A i
      have hnx := ends_next hlt
      have hw : IntKind.i64.wrap ((i : Int) + 1) = ((i + 1 : Nat) : Int) := by rw [w64 (by omega) (by omega)]; omega
      have hw2 : IntKind.i64.wrap ((ends (A.take i) : Int) + 1) = ((ends (A.take i) + 1 : Nat) : Int) := by rw [w64 (by omega) (by omega)]; omega
      by_cases hb : A[i] = 10
      ·rw [if_pos hb] at hnx
       simp [hlt, hlt', hb, hw, hw2]
       exact ⟨A.length - (i + 1), by omega, i + 1, by omega, rfl, by rw [hnx]; simp, rfl⟩
      ·rw [if_neg hb] at hnx
       have hb2 : ¬ A[i].toNat = 10 := fun q => hb (UInt8.toNat_inj.1 q)
       have hb3 : ¬ (A[i].toNat : Int) = 10 := by omega
       simp [hlt, hlt', hb2, hb3, hw, hw2]
       exact ⟨A.length - (i + 1), by omega, i + 1, by omega, rfl, by rw [hnx]; simp, rfl⟩
   ·simp [he]
end Go.Cl
