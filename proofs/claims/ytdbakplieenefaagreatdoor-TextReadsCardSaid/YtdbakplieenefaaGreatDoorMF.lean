/-
  Texts laid together: ATextW ATextL ATextK ATextO.
-/
import Derived.Test.YtdbakplieenefaaGreatDoorME
import Derived.Test.YtdbakplieenefaaGreatDoorM8
namespace Go.Cl
open Go
set_option linter.unusedSimpArgs false
set_option linter.unusedVariables false
set_option maxHeartbeats 2000000
variable {p : PP}
theorem setGo_sm : ∀ (ls : List Wd) (i : Nat) (s : SetV), s.Sm → (∀ l ∈ ls, l.length ≤ 100000) → (setGo i ls s).1.Sm
 | [], i, s, m, _ => by
   rw [setGo]
   split
   ·exact m
   ·exact set0_sm
 | l :: ls, i, s, m, h => by
   rw [setGo]
   split
   ·exact setGo_sm ls _ _ (lineSR_sm m (h l (by simp))) fun x hx => h x (by simp [hx])
   ·exact set0_sm
theorem setR_sm {s : Wd} (h : ∀ ls, linesP s = some ls → ∀ l ∈ ls, l.length ≤ 100000) : (setR s).1.Sm := by
 unfold setR
 cases hl : linesP s with
 | none => exact set0_sm
 | some ls =>
   cases ls with
   | nil => exact set0_sm
   | cons l ls => exact setGo_sm _ _ _ set0_sm fun x hx => h _ hl x hx
theorem SetV.Sm.Fit {s : SetV} (m : s.Sm) : s.Fit := ⟨by have := m.c; omega, by have := m.t; omega, fun t ht => ⟨by have := (m.p t ht).1; omega, fun o ho => ((m.p t ht).2.2 o ho).l⟩⟩
structure FewFacts (x : SetV) : Prop where
 sane : x.Sane
 fit : x.Fit
 fine : x.fine
def uA : OpV := ⟨1, 1, 0, 0, []⟩
def uB : OpV := ⟨2, 0, 0, 0, []⟩
def uC : OpV := ⟨3, 0, 0, 0, []⟩
def uD : OpV := ⟨1, 4, 0, 0, []⟩
def oL (x : OpV) : List CV := [.int .i64 x.kind, .int .i64 x.n, .int .i64 x.v, .int .i64 x.wait, .nils]
def twA : TaskV := ⟨[102, 97, 115, 116], 10, 8, 3, [uA, uB, uA, uC]⟩
def twB : TaskV := ⟨[115, 108, 111, 119], 20, 20, 6, [uB, uD, uC, uA]⟩
def twoS : SetV := ⟨1, [], [twA, twB]⟩
theorem op_rows {h : Heap} {P : Nat → Prop} : ∀ (l : List OpV), (∀ o ∈ l, o.cases = []) → Rows opC h P (l.flatMap oL) l
 | [], _ => Rows.nil
 | o :: l, hl => by
   rw [List.flatMap_cons, show o :: l = [o] ++ l from rfl]
   refine Rows.append (Rows.one (e := opC) (c := oL o) ⟨.nils, rfl, ?_⟩) (op_rows l fun x hx => hl x (by simp [hx]))
   rw [hl o (by simp)]
   exact Sl.nil
theorem own_sl {α : Type} {e : Cod α} {h : Heap} {P : Nat → Prop} {b n : Nat} {l : List α} {cells : List CV} (g : h[b]? = some (.arr cells .tight)) (r : Rows e h P cells l) (hn : n = l.length) (hb : P b) : Sl e h P (.sl b 0 n n) l := by
 subst hn
 have m : Mine h e.n (.sl b 0 l.length l.length) cells := .inr ⟨b, l.length, .tight, rfl, r.1, .inl rfl, g⟩
 exact ⟨cells, m.read, ⟨m.ok, fun x hx => by simp [CV.blk] at hx; subst hx; exact hb⟩, r⟩
theorem two_spec (lp : LP p) {h : Heap} : WF p 52 [] h fun r h' => Keep NoneOf h h' ∧ ∃ d, r = .agg d ∧ setC.rep h' (From h) d twoS := by
 refine WF_of (by rw [lp.pg]; exact S.pg52) (lp.no ⟨rfl, rfl⟩) ?_
 show W p S.b52 _ _ (retQ [.cell (some 3) 0] _)
 unfold S.b52
 have hca : ∀ l, (CV.agg l).cells = l := fun _ => rfl
 have hlt : h.length < h.length + 3 + 2 := by omega
 simp [fillC, splice, hca, fits, storeAt, loadAt, List.getElem?_append, List.set_append, hlt]
 refine ⟨Keep.app _ _ _, .nils, .sl (h.length + 5) 0 2 2, rfl, Sl.nil, ?_⟩
 refine own_sl (cells := tkL twA (.sl (h.length + 1) 0 4 4) ++ tkL twB (.sl (h.length + 3) 0 4 4)) (by simp [tkL, twA, twB]) ?_ rfl (by simp only [From]; omega)
 refine Rows.append (Rows.one (e := taskC) ⟨_, rfl, ?_⟩) (Rows.one (e := taskC) ⟨_, rfl, ?_⟩)
 ·exact own_sl (cells := [uA, uB, uA, uC].flatMap oL) (by simp [oL, uA, uB, uC]) (op_rows _ (by simp [uA, uB, uC])) rfl (by simp only [From]; omega)
 ·exact own_sl (cells := [uB, uD, uC, uA].flatMap oL) (by simp [oL, uA, uB, uC, uD]) (op_rows _ (by simp [uA, uB, uC, uD])) rfl (by simp only [From]; omega)
def txt0 : Wd := [108, 111, 99, 107, 115, 32, 49, 10, 116, 97, 115, 107, 32, 102, 97, 115, 116, 32, 49, 48, 32, 56, 32, 51, 10, 114, 117, 110, 32, 49, 10, 108, 111, 99, 107, 32, 48, 10, 114, 117, 110, 32, 49, 10, 117, 110, 108, 111, 99, 107, 32, 48, 10, 116, 97, 115, 107, 32, 115, 108, 111, 119, 32, 50, 48, 32, 50, 48, 32, 54, 10, 108, 111, 99, 107, 32, 48, 10, 114, 117, 110, 32, 52, 10, 117, 110, 108, 111, 99, 107, 32, 48, 10, 114, 117, 110, 32, 49, 10]
def txt1 : Wd := [108, 111, 99, 107, 115, 32, 48, 10, 99, 104, 97, 110, 32, 49, 32, 45, 10, 116, 97, 115, 107, 32, 97, 32, 53, 32, 53, 32, 53, 10, 114, 117, 110, 32, 49, 10, 99, 104, 97, 110, 32, 49, 32, 45, 10]
def txt2 : Wd := [108, 111, 99, 107, 115, 32, 48, 10, 114, 117, 110, 32, 49, 10]
def txt4 : Wd := [108, 111, 99, 107, 115, 32, 48, 10, 116, 97, 115, 107, 32, 97, 32, 53, 32, 54, 32, 53, 10, 114, 117, 110, 32, 49, 10]
theorem two_text : printP twoS = (txt0, 0) := by decide +kernel
theorem two_read : setR txt0 = (twoS, 0, 0) := by decide +kernel
theorem bad1_read : setR txt1 = (set0, 4, 2) := by decide +kernel
theorem bad2_read : setR txt2 = (set0, 1, 2) := by decide +kernel
theorem bad3_read : setR [] = (set0, 0, 2) := by decide +kernel
theorem bad4_read : setR txt4 = (set0, 0, 1) := by decide +kernel
theorem two_sm : twoS.Sm := by
 have h := setR_sm (s := txt0) fun ls hl l hm => by
  have := (lines_bnd hl).2 l hm
  have h2 : txt0.length = 99 := by decide
  omega
 rwa [two_read] at h
theorem readCell (lp : LP p) {s : Wd} {h : Heap} {x : SetV} {i e : Int} (hs : s.length ≤ 1000) (hX : setR s = (x, i, e)) {K : CV → Heap → Prop}
  (k : ∀ c1 h1, setC.rep h1 (From h) c1 x → c1.length = 3 → c1.all CV.scalar = true → Keep NoneOf h h1 → K (.tup [.agg c1, .int .i64 i, .int .i64 e]) h1) : WF p 252 [.str s] h K := by
 refine (textParse_spec lp (by omega) fun ls hl l hm => by have := (lines_bnd hl).2 l hm; omega).mono ?_
 rw [hX]
 rintro r h1 ⟨c1, rfl, r1, k1⟩
 exact k c1 h1 r1 (setC.len r1) (setC.flat r1) k1
set_option maxRecDepth 100000 in
theorem known247 (lp : LP p) (hp : p.pr 247 = none) {h : Heap} : WF p 247 [] h fun r h' => r = .bool true ∧ Keep NoneOf h h' := by
 refine WF_of (by rw [lp.pg]; exact S.pg247) hp ?_
 show W p S.b247 _ _ (retQ [.t 0] _)
 unfold S.b247
 have hca : ∀ l, (CV.agg l).cells = l := fun _ => rfl
 simp
 refine (two_spec lp).mono ?_
 rintro r h1 ⟨k1, d, rfl, rd⟩
 try simp
 refine (print_spec lp rd two_sm.Sane two_sm.fine).mono ?_
 rintro r h2 ⟨rfl, k2⟩
 rw [two_text]
 try simp
 refine readCell lp (by decide) two_read fun c1 h3 r1 l1 f1 k3 => ?_
 have st1 := store_new (h := h3) (row := c1) (z := [.int .i64 0, .nils, .nils]) l1 f1
 have ff1 : fits (some 3) (.agg c1) = true := by simp [l1]
 have g1 := get_new (h := h3) (o := .arr c1 .tight)
 have kap1 := Keep.app NoneOf h3 [.arr c1 .tight]
 have r1' := setC.on r1 kap1
 simp [hca, ff1, st1]
 generalize hH1 : h3 ++ [Obj.arr c1 .tight] = H1 at *
 refine readCell lp (s := txt1) (by decide) bad1_read fun c2 h4 r2 l2 f2 k4 => ?_
 have st2 := store_new (h := h4) (row := c2) (z := [.int .i64 0, .nils, .nils]) l2 f2
 have ff2 : fits (some 3) (.agg c2) = true := by simp [l2]
 have kap2 := Keep.app NoneOf h4 [.arr c2 .tight]
 simp [hca, ff2, st2]
 generalize hH2 : h4 ++ [Obj.arr c2 .tight] = H2 at *
 refine readCell lp (s := txt2) (by decide) bad2_read fun c3 h5 r3 l3 f3 k5 => ?_
 have st3 := store_new (h := h5) (row := c3) (z := [.int .i64 0, .nils, .nils]) l3 f3
 have ff3 : fits (some 3) (.agg c3) = true := by simp [l3]
 have kap3 := Keep.app NoneOf h5 [.arr c3 .tight]
 simp [hca, ff3, st3]
 generalize hH3 : h5 ++ [Obj.arr c3 .tight] = H3 at *
 refine readCell lp (s := []) (by decide) bad3_read fun c4 h6 r4 l4 f4 k6 => ?_
 have st4 := store_new (h := h6) (row := c4) (z := [.int .i64 0, .nils, .nils]) l4 f4
 have ff4 : fits (some 3) (.agg c4) = true := by simp [l4]
 have kap4 := Keep.app NoneOf h6 [.arr c4 .tight]
 simp [hca, ff4, st4]
 generalize hH4 : h6 ++ [Obj.arr c4 .tight] = H4 at *
 refine readCell lp (s := txt4) (by decide) bad4_read fun c5 h7 r5 l5 f5 k7 => ?_
 have st5 := store_new (h := h7) (row := c5) (z := [.int .i64 0, .nils, .nils]) l5 f5
 have ff5 : fits (some 3) (.agg c5) = true := by simp [l5]
 have kap5 := Keep.app NoneOf h7 [.arr c5 .tight]
 have KK := ((((((((k4.trans kap2).trans k5).trans kap3).trans k6).trans kap4).trans k7).trans kap5))
 have w1 := ldw (KK.at g1 id) l1
 have K0 := (((k1.trans k2).trans k3).trans kap1).trans KK
 have r10 := setC.on r1' KK
 simp [hca, ff5, st5]
 generalize hH5 : h7 ++ [Obj.arr c5 .tight] = H5 at *
 have hw0 : IntKind.i64.wrap 0 = 0 := rfl
 simp [txt0, w1, hw0]
 refine (setOf_spec lp.pg (lp.no ⟨rfl, rfl⟩) (lp.no ⟨rfl, rfl⟩) (lp.no ⟨rfl, rfl⟩) r10 two_sm.Fit).mono ?_
 rintro r h8 ⟨k8, d8, rfl, rd8⟩
 try simp
 refine (two_spec lp).mono ?_
 rintro r h9 ⟨k9, d9, rfl, rd9⟩
 try simp
 refine (setOf_spec lp.pg (lp.no ⟨rfl, rfl⟩) (lp.no ⟨rfl, rfl⟩) (lp.no ⟨rfl, rfl⟩) rd9 two_sm.Fit).mono ?_
 rintro r h10 ⟨k10, d10, rfl, rd10⟩
 try simp
 refine (sameSet_spec lp (setC.on (setC.on rd8 k9) k10) rd10 two_sm.Sane).mono ?_
 rintro r h11 ⟨rfl, k11⟩
 simp
 exact (((K0.trans k8).trans k9).trans k10).trans k11
theorem textReads_law (lp : LP p) (hp : p.pr 247 = none) {s : Wd} {h : Heap} : WF p 254 [.str s] h fun r _ => r = .bool true := by
 refine WF_of (by rw [lp.pg]; exact S.pg254) (lp.no ⟨rfl, rfl⟩) ?_
 show W p S.b254 _ _ (retQ [.t 2] _)
 unfold S.b254
 have hca : ∀ l, (CV.agg l).cells = l := fun _ => rfl
 try simp
 refine (known247 lp hp).mono ?_
 rintro r h0 ⟨rfl, _⟩
 by_cases hs : 3000 < s.length
 ·have hs' : (3000 : Int) < s.length := by omega
  simp [hs, hs']
 have hs' : ¬ (3000 : Int) < s.length := by omega
 simp [hs, hs']
 have hlong : ∀ ls, linesP s = some ls → ∀ l ∈ ls, l.length ≤ 100000 := fun ls hl l hm => by have := (lines_bnd hl).2 l hm; omega
 have hsm : (setR s).1.Sm := setR_sm hlong
 have hok := setR_ok (t := s)
 obtain ⟨X, hX⟩ : ∃ X, setR s = X := ⟨_, rfl⟩
 obtain ⟨x, i, e⟩ := X
 rw [hX] at hsm hok
 have hsm : x.Sm := hsm
 have hok : e = 0 → printP x = (s, 0) := hok
 refine (textParse_spec lp (by omega) hlong).mono ?_
 rw [hX]
 rintro r h1 ⟨c1, rfl, r1, k1⟩
 have r1 : setC.rep h1 (From h0) c1 x := r1
 have l1 : c1.length = 3 := setC.len r1
 have st1 := store_new (h := h1) (row := c1) (z := [.int .i64 0, .nils, .nils]) l1 (setC.flat r1)
 have g1 := get_new (h := h1) (o := .arr c1 .tight)
 have r1' := setC.on r1 (Keep.app NoneOf h1 [.arr c1 .tight])
 have f1 : fits (some 3) (.agg c1) = true := by simp [l1]
 simp [hca, f1, st1]
 generalize hH1 : h1 ++ [Obj.arr c1 .tight] = H1 at *
 refine (refTextParse_spec lp (by omega) hlong).mono ?_
 rw [hX]
 rintro r h2 ⟨c2, rfl, r2, k2⟩
 have r2 : setC.rep h2 (From H1) c2 x := r2
 have l2 : c2.length = 3 := setC.len r2
 have st2 := store_new (h := h2) (row := c2) (z := [.int .i64 0, .nils, .nils]) l2 (setC.flat r2)
 have g2 := get_new (h := h2) (o := .arr c2 .tight)
 have kap := Keep.app NoneOf h2 [Obj.arr c2 .tight]
 have g12 := kap.at (k2.at g1 id) id
 have r1'' := setC.on (setC.on r1' k2) kap
 have r2' := setC.on r2 kap
 have f2 : fits (some 3) (.agg c2) = true := by simp [l2]
 simp [hca, f2, st2]
 generalize hH2 : h2 ++ [Obj.arr c2 .tight] = H2 at *
 have w1 := ldw g12 l1
 have w2 := ldw g2 l2
 simp [w1, w2]
 refine WO_re (by simp) ?_
 simp
 refine (setOf_spec lp.pg (lp.no ⟨rfl, rfl⟩) (lp.no ⟨rfl, rfl⟩) (lp.no ⟨rfl, rfl⟩) r1'' hsm.Fit).mono ?_
 rintro r h3 ⟨k3, d, rfl, rd⟩
 have g13 := k3.at g12 id
 have w13 := ldw g13 l1
 have w23 := ldw (k3.at g2 id) l2
 refine ⟨fun c => by simp [recheckB, wanted, Env.get, cls, evOp, Opd.ev, withH, CV.eqb, w23, CV.eqb_refl, CV.eqbL_refl], ?_⟩
 refine (sameSet_spec lp rd (setC.on r2' k3) hsm.Sane).mono ?_
 rintro r h4 ⟨rfl, k4⟩
 have w14 := ldw (k4.at g13 id) l1
 have r14 := setC.on (setC.on r1'' k3) k4
 by_cases he : e = 0
 ·subst he
  simp [w14]
  refine (print_spec lp r14 hsm.Sane hsm.fine).mono ?_
  rintro r h5 ⟨rfl, k5⟩
  rw [hok rfl]
  simp
 ·simp [he]
end Go.Cl
