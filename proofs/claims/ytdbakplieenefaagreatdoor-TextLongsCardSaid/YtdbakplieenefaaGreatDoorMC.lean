/-
  Texts laid together: ASet ASetK ASetC ASetD AText.
-/
import Derived.Test.YtdbakplieenefaaGreatDoorM8
import Derived.Test.YtdbakplieenefaaGreatDoorM5
import Derived.Test.YtdbakplieenefaaGreatDoorMB
import Derived.Test.YtdbakplieenefaaGreatDoorM7
namespace Go.Cl
open Go
set_option linter.unusedSimpArgs false
set_option linter.unusedVariables false
set_option maxHeartbeats 2000000
variable {p : PP}
def chL (x : ChanV) : List CV := [.int .i64 x.room, .int .i64 x.server]
def chanC : Cod ChanV where
 n := 2
 rep _ _ c x := c = chL x
 len e := by subst e; rfl
 flat e := by subst e; rfl
 mono e _ := e
 keep e _ _ := e
 lt e := e
def tkL (x : TaskV) (pv : CV) : List CV := [.str x.name, .int .i64 x.per, .int .i64 x.dl, .int .i64 x.bud, pv]
def taskC : Cod TaskV where
 n := 5
 rep h P c x := ∃ pv, c = tkL x pv ∧ Sl opC h P pv x.prog
 len := by rintro h P c x ⟨pv, rfl, _⟩; rfl
 flat := by rintro h P c x ⟨pv, rfl, s⟩; simp only [tkL, List.all_cons, List.all_nil, s.scalar]; rfl
 mono := by rintro h P Q c x ⟨pv, rfl, s⟩ k; exact ⟨pv, rfl, s.mono k⟩
 keep := by rintro h h' P S c x ⟨pv, rfl, s⟩ k hS; exact ⟨pv, rfl, s.keep k hS⟩
 lt := by rintro h P c x ⟨pv, rfl, s⟩; exact ⟨pv, rfl, s.lt⟩
def setC : Cod SetV where
 n := 3
 rep h P c x := ∃ cv tv, c = [.int .i64 x.locks, cv, tv] ∧ Sl chanC h P cv x.chans ∧ Sl taskC h P tv x.tasks
 len := by rintro h P c x ⟨cv, tv, rfl, _⟩; rfl
 flat := by rintro h P c x ⟨cv, tv, rfl, s, t⟩; simp only [List.all_cons, List.all_nil, s.scalar, t.scalar]; rfl
 mono := by rintro h P Q c x ⟨cv, tv, rfl, s, t⟩ k; exact ⟨cv, tv, rfl, s.mono k, t.mono k⟩
 keep := by rintro h h' P S c x ⟨cv, tv, rfl, s, t⟩ k hS; exact ⟨cv, tv, rfl, s.keep k hS, t.keep k hS⟩
 lt := by rintro h P c x ⟨cv, tv, rfl, s, t⟩; exact ⟨cv, tv, rfl, s.lt, t.lt⟩
structure SetV.Fit (x : SetV) : Prop where
 c : x.chans.length ≤ 1000000
 t : x.tasks.length ≤ 1000000
 p : ∀ t ∈ x.tasks, t.prog.length ≤ 1000000 ∧ ∀ o ∈ t.prog, o.cases.length ≤ 1000000
structure SoH (h : Heap) (c : List CV) (x : SetV) (ov tv : CV) (i j : Nat) (h' : Heap) : Prop where
 k : Keep NoneOf h h'
 g0 : h'[h.length]? = some (.arr c .tight)
 g1 : h'[h.length + 1]? = some (.arr [.int .i64 0, .nils, .nils] .tight)
 g2 : h'[h.length + 2]? = some (.arr [.int .i64 x.locks, ov, tv] .tight)
 oc : OwnL chanC h' NoneOf ov (x.chans.take i)
 ot : OwnN taskC (h.length + 3) h' tv (x.tasks.take j)
 bo : ∀ b, ov.blk = some b → h.length + 3 ≤ b
 bt : ∀ b, tv.blk = some b → h.length + 3 ≤ b
 ap : ∀ b, ov.blk = some b → tv.blk ≠ some b
def SoI (h : Heap) (c : List CV) (x : SetV) (m : Nat) (e : Env) (h' : Heap) : Prop :=
 ∃ (i : Nat) (ov : CV), i ≤ x.chans.length ∧ m = x.chans.length - i ∧ e = [(1, .ptr h.length 0), (2, .ptr (h.length + 1) 0), (3, .ptr (h.length + 2) 0), (4, .int .i64 i)] ∧ SoH h c x ov .nils i 0 h'
def SoJ (h : Heap) (c : List CV) (x : SetV) (m : Nat) (e : Env) (h' : Heap) : Prop :=
 ∃ (j : Nat) (ov tv : CV), j ≤ x.tasks.length ∧ m = x.tasks.length - j ∧ e = [(1, .ptr h.length 0), (2, .ptr (h.length + 1) 0), (3, .ptr (h.length + 2) 0), (5, .int .i64 j)] ∧ SoH h c x ov tv x.chans.length j h'
theorem setOf_spec (hpg : p.Pg = S.pg) (q10 : p.pr 10 = none) (q53 : p.pr 53 = none) (q32 : p.pr 32 = none) {h : Heap} {c : List CV} {x : SetV} {P : Nat → Prop} (r0 : setC.rep h P c x) (hx : x.Fit) :
  WF p 10 [.agg c] h fun r h' => Keep NoneOf h h' ∧ ∃ d, r = .agg d ∧ setC.rep h' (From h) d x := by
 obtain ⟨cv, tv0, hC, sc, stk⟩ := r0
 refine WF_of (by rw [hpg]; exact S.pg10) q10 ?_
 show W p S.b10 _ _ (retQ [.cell (some 3) 2] _)
 unfold S.b10
 have c0 : c[0]? = some (.int .i64 x.locks) := by subst hC; rfl
 have c1 : c[1]? = some cv := by subst hC; rfl
 have c2 : c[2]? = some tv0 := by subst hC; rfl
 clear hC
 have ca : ∀ l, (CV.agg l).cells = l := fun _ => rfl
 have l0 : ∀ (o1 : Obj) o, loadAt (h ++ [.arr c .tight, o1]) h.length o none = c[o]? := fun o1 o => two0 o
 have f1 : fillC [.int .i64 0, .nils, .nils] [(0, 1, .int .i64 x.locks)] = some [.int .i64 x.locks, .nils, .nils] := rfl
 have st : storeAt (h ++ [.arr c .tight, .arr [.int .i64 0, .nils, .nils] .tight, .arr [.int .i64 0, .nils, .nils] .tight]) (h.length + 2) 0 [.int .i64 x.locks, .nils, .nils] = some (h ++ [.arr c .tight, .arr [.int .i64 0, .nils, .nils] .tight, .arr [.int .i64 x.locks, .nils, .nils] .tight]) := by
  have := store_new (h := h ++ [.arr c .tight, .arr [.int .i64 0, .nils, .nils] .tight]) (row := [.int .i64 x.locks, .nils, .nils]) (z := [.int .i64 0, .nils, .nils]) rfl rfl
  simpa using this
 simp [ca, l0, c0, f1, st]
 refine W_loop (SoI h c x) ?_ x.chans.length ⟨0, .nils, by omega, by omega, rfl, Keep.app _ _ _, by simp, by simp, by simp, by simpa using OwnL.nil, by simpa using OwnN.nil, by simp [CV.blk], by simp [CV.blk], by simp [CV.blk]⟩
 rintro m e H ⟨i, ov, hi, rfl, rfl, q⟩
 have hfc := hx.c
 have hft := hx.t
 have l0 := ld q.g0
 have l2 := ld q.g2
 have s0 := sc.on q.k
 have n0 := s0.len (by decide)
 have lO : ∀ v w : CV, ([.int .i64 x.locks, v, w] : List CV).length = 3 := fun _ _ => rfl
 by_cases hie : i = x.chans.length
 ·subst hie
  simp [l0, c1, n0]
  refine W_loop (SoJ h c x) ?_ x.tasks.length ⟨0, ov, .nils, by omega, by omega, rfl, q⟩
  clear q l0 l2 s0 n0 hi
  rintro m e H ⟨j, ov, tv, hj, rfl, rfl, q⟩
  have l0 := ld q.g0
  have l2 := ld q.g2
  have s0 := stk.on q.k
  have n0 := s0.len (by decide)
  by_cases hje : j = x.tasks.length
  ·subst hje
   have w2 := ldw q.g2 (lO ov tv)
   have hso := q.oc.scalar
   have hst := q.ot.scalar
   have s1 := sto q.g1 (vs := [.int .i64 x.locks, ov, tv]) rfl (by simp only [List.all_cons, List.all_nil, hso, hst]; rfl)
   have ke : Keep (fun b => b = h.length + 1) H (H.set (h.length + 1) (.arr [.int .i64 x.locks, ov, tv] .tight)) := Keep.set _ _ rfl
   have w1 := ldw (get_set_self (o := .arr [.int .i64 x.locks, ov, tv] .tight) (lt_of_get q.g1)) (lO ov tv)
   simp [l0, c2, n0, w2, ca, s1, w1]
   refine ⟨q.k.then ke fun b hb e => by omega, ov, tv, rfl, ?_, ?_⟩
   ·have := (q.oc.keep ke (fun b hb e => by have := q.bo b hb; omega) fun _ e => e.elim).sl
    rw [List.take_length] at this
    exact this.mono fun b hb => by
     rcases hb with hb | hb
     ·exact hb.elim
     ·have := q.bo b hb; simp only [From]; omega
   ·have := (OwnN.keep q.ot ke (fun b hb e => by have := q.bt b hb; omega) fun b hb _ _ e => by omega).sl q.bt
    rw [List.take_length] at this
    exact this.mono fun b hb => by simp only [From]; omega
  ·have hlt : j < x.tasks.length := by omega
   have hlt' : (j : Int) < x.tasks.length := by omega
   obtain ⟨bb, o, row, x1, x2, x3, x4⟩ := s0.row (k := .i64) (by decide) hlt
   have hrl : row.length = 5 := taskC.len x4
   have hrf := taskC.flat x4
   obtain ⟨pv, hrow, sp⟩ := x4
   simp only [taskC] at x1 x2
   have hw : IntKind.i64.wrap ((j : Int) + 1) = ((j + 1 : Nat) : Int) := by rw [w64 (by omega) (by omega)]; omega
   have hfit : fits (some 5) (.agg row) = true := by rw [hrow]; rfl
   have st6 := store_new (h := H) (row := row) (z := [.str [], .int .i64 0, .int .i64 0, .int .i64 0, .nils]) (by rw [hrl]; rfl) hrf
   have kap : Keep NoneOf H (H ++ [.arr row .tight]) := Keep.app _ _ _
   have g6 : (H ++ [Obj.arr row .tight])[H.length]? = some (.arr row .tight) := by simp
   have l6 := ld g6
   have l2' := ld (kap.at q.g2 id)
   have r0 : row[0]? = some (.str x.tasks[j].name) := by rw [hrow]; rfl
   have r1 : row[1]? = some (.int .i64 x.tasks[j].per) := by rw [hrow]; rfl
   have r2 : row[2]? = some (.int .i64 x.tasks[j].dl) := by rw [hrow]; rfl
   have r3 : row[3]? = some (.int .i64 x.tasks[j].bud) := by rw [hrow]; rfl
   have r4 : row[4]? = some pv := by rw [hrow]; rfl
   have hpf := hx.p x.tasks[j] (List.getElem_mem hlt)
   simp [l0, c2, n0, hlt, hlt', x1, x2, ca, hfit, st6, l6, l2', r0, r1, r2, r3, r4]
   refine WO_re_n ?_
   simp
   refine (opOfAll_spec hpg q53 q32 (sp.on kap) (by simp [big]; omega) (fun o ho => by have := hpf.2 o ho; simp [big]; omega)).mono ?_
   rintro r H2 ⟨k2, so⟩
   have l62 := ld (k2.at g6 id)
   have g22 := k2.at (kap.at q.g2 id) id
   have l22 := ld g22
   refine ⟨fun c => by simp [recheckB, wanted, Env.get, cls, evOp, Opd.ev, withH, CV.eqb, l62, l22, r0, r1, r2, r3, r4, CV.eqb_refl], ?_⟩
   have hrs := so.scalar
   have f2 : fillC [.str [], .int .i64 0, .int .i64 0, .int .i64 0, .nils] [(0, 1, .str x.tasks[j].name), (1, 1, .int .i64 x.tasks[j].per), (2, 1, .int .i64 x.tasks[j].dl), (3, 1, .int .i64 x.tasks[j].bud), (4, 1, r)] = some (tkL x.tasks[j] r) := by
    simp [fillC, splice, CV.cells_scalar hrs, tkL]
   have f3 : fillC [.str [], .int .i64 0, .int .i64 0, .int .i64 0, .nils] [(0, 5, .agg (tkL x.tasks[j] r))] = some (tkL x.tasks[j] r) := rfl
   have htl : (tkL x.tasks[j] r).length = 5 := rfl
   have htt : List.take 5 (tkL x.tasks[j] r) = tkL x.tasks[j] r := rfl
   simp [f2, f3, spread, cellsAt, htl, htt]
   have kap2 : Keep NoneOf H2 (H2 ++ [.arr (tkL x.tasks[j] r) .tight]) := Keep.app _ _ _
   have K12 := (kap.trans k2).trans kap2
   have ot2 := OwnN.on q.ot K12
   have hHl : H.length < H2.length := lt_of_get (k2.at g6 id)
   have rt : taskC.rep (H2 ++ [.arr (tkL x.tasks[j] r) .tight]) (From (H ++ [.arr row .tight])) (tkL x.tasks[j] r) x.tasks[j] := ⟨r, rfl, so.on kap2⟩
   refine OV_pushN (e := taskC) (x := x.tasks[j]) ot2 rt (fun b hb hlt => ?_) (by simp [big]; omega) (by decide) ?_
   ·have hb : (H ++ [Obj.arr row .tight]).length ≤ b := hb
    have hlg := lt_of_get q.g2
    simp at hb
    exact ⟨by omega, fun hv => by have := OwnN.blk q.ot b hv; omega⟩
   ·intro tv' H3 o3 k3 hb3
    have hbt : ∀ b, tv'.blk = some b → h.length + 3 ≤ b := fun b hb => by
     rcases hb3 b hb with hq | hq
     ·exact q.bt b hq
     ·have := lt_of_get q.g2
      simp at hq
      omega
    have g23 := k3.at (kap2.at g22 id) (fun hv => by have := q.bt _ hv; omega)
    have g03 := k3.at (K12.at q.g0 id) (fun hv => by have := q.bt _ hv; omega)
    have g13 := k3.at (K12.at q.g1 id) (fun hv => by have := q.bt _ hv; omega)
    have hsc := OwnN.scalar o3
    have s3 := sto1 g23 (o := 2) (v := tv') (by rw [lO]; omega) hsc
    have hset : ([.int .i64 x.locks, ov, tv] : List CV).set 2 tv' = [.int .i64 x.locks, ov, tv'] := rfl
    rw [hset] at s3
    have fs := fits_scalar hsc
    have cs := CV.cells_scalar hsc
    have ke : Keep (fun b => b = h.length + 2) H3 (H3.set (h.length + 2) (.arr [.int .i64 x.locks, ov, tv'] .tight)) := Keep.set _ _ rfl
    simp [fs, cs, s3, hw]
    refine ⟨_, by omega, j + 1, ov, tv', by omega, rfl, rfl, ?_⟩
    have hov3 : ∀ b, tv'.blk = some b → ov.blk ≠ some b := fun b hb ho => by
     rcases hb3 b hb with hq | hq
     ·exact q.ap b ho hq
     ·have := q.oc.blk b ho
      have h2 := K12.len
      simp at hq h2
      omega
    refine ⟨((q.k.trans K12).then k3 fun b hb e => by have := q.bt b e; omega).then ke fun b hb e => by omega, ke.at g03 (by omega), ke.at g13 (by omega), get_set_self (lt_of_get g23), ?_, ?_, q.bo, hbt, fun b ho ht => hov3 b ht ho⟩
    ·exact ((q.oc.on K12).keep k3 (fun b hb hv => q.ap b hb hv) (fun _ hb => hb.elim)).keep ke (fun b hb e => by have := q.bo b hb; omega) (fun _ hb => hb.elim)
    ·have := OwnN.keep o3 ke (fun b hb e => by have := hbt b hb; omega) (fun b hb _ _ e => by omega)
     rwa [List.take_append_getElem hlt] at this
 ·have hlt : i < x.chans.length := by omega
  have hlt' : (i : Int) < x.chans.length := by omega
  obtain ⟨bb, o, row, x1, x2, x3, x4⟩ := s0.row (k := .i64) (by decide) hlt
  have x4 : row = chL x.chans[i] := x4
  simp only [chanC] at x1 x2 x3
  have y0 := x3 0 (by decide)
  have y1 := x3 1 (by decide)
  rw [x4] at y0 y1
  simp [chL] at y0 y1
  have hw : IntKind.i64.wrap ((i : Int) + 1) = ((i + 1 : Nat) : Int) := by rw [w64 (by omega) (by omega)]; omega
  have f2 : fillC [.int .i64 0, .int .i64 0] [(0, 1, .int .i64 x.chans[i].room), (1, 1, .int .i64 x.chans[i].server)] = some (chL x.chans[i]) := rfl
  have f3 : fillC [.int .i64 0, .int .i64 0] [(0, 2, .agg (chL x.chans[i]))] = some (chL x.chans[i]) := rfl
  have htl : (chL x.chans[i]).length = 2 := rfl
  have htt : List.take 2 (chL x.chans[i]) = chL x.chans[i] := rfl
  have kap : Keep NoneOf H (H ++ [.arr (chL x.chans[i]) .tight]) := Keep.app _ _ _
  simp [l0, c1, n0, l2, hlt, hlt', x1, y0, y1, f2, f3, spread, cellsAt, htl, htt]
  refine OV_push (e := chanC) (x := x.chans[i]) (q.oc.on kap) rfl (fun _ hb => hb.elim) (by simp [big]; omega) (by decide) ?_
  intro ov' H2 o2 k2 hb2
  have hbo : ∀ b, ov'.blk = some b → h.length + 3 ≤ b := fun b hb => by
   rcases hb2 b hb with hq | hq
   ·exact q.bo b hq
   ·have := lt_of_get q.g2
    simp at hq
    omega
  have g22 := k2.at (kap.at q.g2 id) (fun hv => by have := q.bo _ hv; omega)
  have g02 := k2.at (kap.at q.g0 id) (fun hv => by have := q.bo _ hv; omega)
  have g12 := k2.at (kap.at q.g1 id) (fun hv => by have := q.bo _ hv; omega)
  have hsc := o2.scalar
  have s3 := sto1 g22 (o := 1) (v := ov') (by rw [lO]; omega) hsc
  have hset : ([.int .i64 x.locks, ov, .nils] : List CV).set 1 ov' = [.int .i64 x.locks, ov', .nils] := rfl
  rw [hset] at s3
  have fs := fits_scalar hsc
  have cs := CV.cells_scalar hsc
  have ke : Keep (fun b => b = h.length + 2) H2 (H2.set (h.length + 2) (.arr [.int .i64 x.locks, ov', .nils] .tight)) := Keep.set _ _ rfl
  simp [fs, cs, s3, hw]
  refine ⟨_, by omega, i + 1, ov', by omega, rfl, rfl, ?_⟩
  refine ⟨((q.k.trans kap).then k2 fun b hb e => by have := q.bo b e; omega).then ke fun b hb e => by omega, ke.at g02 (by omega), ke.at g12 (by omega), get_set_self (lt_of_get g22), ?_, by simpa using OwnN.nil, hbo, by simp [CV.blk], by simp [CV.blk]⟩
  have := o2.keep ke (fun b hb e => by have := hbo b hb; omega) (fun _ hb => hb.elim)
  rwa [List.take_append_getElem hlt] at this
def CgInv (v : CV) (K : Nat) (caps : List CV) (l : List Case) (F : Case → Bool) (h : Heap) (m : Nat) (e : Env) (h' : Heap) : Prop :=
 ∃ i : Nat, i ≤ l.length ∧ m = l.length - i ∧ e = [(0, v), (1, .fn K caps), (7, .int .i64 l.length), (8, .int .i64 i)] ∧ Keep NoneOf h h' ∧ (l.take i).any F = false
theorem caseAny_spec (lp : LP p) {K : Nat} {caps : List CV} {F : Case → Bool} {h : Heap} {v : CV} {l : List Case} {P : Nat → Prop} (s : Sl caseC h P v l) (hl : l.length ≤ big)
  (see : ∀ h1 (x : Case), Keep NoneOf h h1 → WF p K ([.agg (caL x)] ++ caps) h1 fun r h2 => r = .bool (F x) ∧ Keep NoneOf h1 h2) :
  WF p 235 [v, .fn K caps] h fun r h' => r = .bool (l.any F) ∧ Keep NoneOf h h' := by
 refine WF_of (by rw [lp.pg]; exact S.pg235) (lp.no ⟨rfl, rfl⟩) ?_
 show W p S.b235 _ _ (retQ [.t 4] _)
 unfold S.b235
 simp
 suffices w : WF p 238 [v, .fn K caps] h fun r h' => (∃ k : Int, r = .int .i64 k ∧ decide (0 ≤ k) = l.any F) ∧ Keep NoneOf h h' by
  refine w.mono ?_
  rintro r h1 ⟨⟨j, rfl, hj⟩, k1⟩
  rw [← hj]
  simp
  exact k1
 refine WF_of (by rw [lp.pg]; exact S.pg238) (lp.no ⟨rfl, rfl⟩) ?_
 show W p S.b238 _ _ (retQ [.t 4] _)
 unfold S.b238
 have n0 := s.len (by decide)
 simp [n0]
 refine W_loop (CgInv v K caps l F h) ?_ l.length ⟨0, by omega, by omega, rfl, Keep.refl _ _, rfl⟩
 rintro m e h1 ⟨i, hi, rfl, rfl, k1, hno⟩
 by_cases hie : i = l.length
 ·subst hie
  rw [List.take_length] at hno
  simp [hno]
  exact k1
 ·have hlt : i < l.length := by omega
  have hlt' : (i : Int) < l.length := by omega
  obtain ⟨b0, o0, row, x1, x2, x3, x4⟩ := (s.on k1).row (k := .i64) (by decide) hlt
  have x4 : row = caL l[i] := x4
  simp only [caseC] at x1 x2
  rw [x4] at x2
  have hw : IntKind.i64.wrap ((i : Int) + 1) = ((i + 1 : Nat) : Int) := by
   simp [big] at hl
   rw [w64 (by omega) (by omega)]; omega
  simp [hlt', x1, x2]
  refine (see h1 l[i] k1).mono ?_
  rintro r h2 ⟨rfl, k2⟩
  cases hq : F l[i] with
  | true =>
    have : l.any F = true := List.any_eq_true.2 ⟨l[i], List.getElem_mem hlt, hq⟩
    simp [hq, this]
    exact k1.trans k2
  | false =>
    simp [hq, hw]
    refine ⟨l.length - (i + 1), by omega, i + 1, by omega, rfl, rfl, k1.trans k2, ?_⟩
    rw [← List.take_append_getElem hlt, List.any_append, hno]
    simp [hq]
structure SetAt (h : Heap) (P : Nat → Prop) (b : Nat) (s : SetV) (cv tv : CV) : Prop where
 g : h[b]? = some (.arr [.int .i64 s.locks, cv, tv] .tight)
 c : Sl chanC h P cv s.chans
 t : Sl taskC h P tv s.tasks
theorem SetAt.on {h h' : Heap} {P : Nat → Prop} {b : Nat} {s : SetV} {cv tv : CV} (q : SetAt h P b s cv tv) (k : Keep NoneOf h h') : SetAt h' P b s cv tv := ⟨k.at q.g id, q.c.on k, q.t.on k⟩
theorem known1_spec (lp : LP p) {h : Heap} {P : Nat → Prop} {b : Nat} {s : SetV} {cv tv : CV} (q : SetAt h P b s cv tv) {x : Case} :
  WF p 298 [.agg (caL x), .ptr b 0] h fun r h' => r = .bool (decide ((s.chans.length : Int) ≤ x.chan)) ∧ Keep NoneOf h h' := by
 refine WF_of (by rw [lp.pg]; exact S.pg298) (lp.no ⟨rfl, rfl⟩) ?_
 show W p S.b298 _ _ (retQ [.t 3] _)
 unfold S.b298
 have q1 := q.on (Keep.app NoneOf h [.arr (caL x) .tight])
 have lS := ld q1.g
 have lX := ld (get_new (h := h) (o := .arr (caL x) .tight))
 have n0 := q1.c.len (by decide)
 have c1 : (caL x)[1]? = some (.int .i64 x.chan) := rfl
 simp [lS, lX, c1, n0]
 exact Keep.app _ _ _
theorem all_any {l : List Case} {n : Int} : (l.all fun c => decide (c.chan < n)) = !(l.any fun c => decide (n ≤ c.chan)) := by
 induction l with
 | nil => rfl
 | cons c r ih =>
   simp only [List.all_cons, List.any_cons, ih]
   by_cases h : c.chan < n
   ·have : ¬ n ≤ c.chan := by omega
    simp [h, this]
   ·have : n ≤ c.chan := by omega
    simp [h, this]
theorem known_spec (lp : LP p) {h : Heap} {P Q : Nat → Prop} {s : SetV} {c d : List CV} {o : OpV} (rs : setC.rep h P c s) (ro : opC.rep h Q d o) (hc : o.cases.length ≤ big) :
  WF p 288 [.agg c, .agg d] h fun r h' => r = .bool (knownP s o) ∧ Keep NoneOf h h' := by
 refine WF_of (by rw [lp.pg]; exact S.pg288) (lp.no ⟨rfl, rfl⟩) ?_
 show W p S.b288 _ _ (retQ [.t 4] _)
 unfold S.b288
 obtain ⟨cv, tv, hc0, sc, st⟩ := rs
 obtain ⟨kv, hd, sk⟩ := ro
 have kap := Keep.app NoneOf h [.arr c .tight, .arr d .tight]
 have gS : (h ++ [.arr c .tight, .arr d .tight])[h.length]? = some (.arr c .tight) := by simp
 have gO : (h ++ [.arr c .tight, .arr d .tight])[h.length + 1]? = some (.arr d .tight) := by simp
 have q : SetAt (h ++ [.arr c .tight, .arr d .tight]) P h.length s cv tv := ⟨by rw [gS, hc0], sc.on kap, st.on kap⟩
 have sk1 := sk.on kap
 have lS := ld gS
 have lO := ld gO
 have n0 := q.c.len (by decide)
 have s0 : c[0]? = some (.int .i64 s.locks) := by subst hc0; rfl
 have s1 : c[1]? = some cv := by subst hc0; rfl
 have d0 : d[0]? = some (.int .i64 o.kind) := by subst hd; rfl
 have d1 : d[1]? = some (.int .i64 o.n) := by subst hd; rfl
 have d4 : d[4]? = some kv := by subst hd; rfl
 clear hc0 hd
 by_cases a : o.kind = 2 ∨ o.kind = 3
 ·have e : knownP s o = decide (o.n < s.locks) := by unfold knownP; rw [if_pos a]
  rw [e]
  rcases a with a | a <;>
  ·simp [lS, lO, s0, d0, d1, a]
   exact kap
 ·by_cases b : o.kind = 4 ∨ o.kind = 5 ∨ o.kind = 6
  ·have e : knownP s o = decide (o.n < s.chans.length) := by unfold knownP; rw [if_neg a, if_pos b]
   rw [e]
   rcases b with b | b | b <;>
   ·simp [lS, lO, s1, d0, d1, b, n0]
    exact kap
  ·have e : knownP s o = !(o.cases.any fun c => decide ((s.chans.length : Int) ≤ c.chan)) := by unfold knownP; rw [if_neg a, if_neg b, all_any]
   rw [e]
   have a2 : ¬ o.kind = 2 := by omega
   have a3 : ¬ o.kind = 3 := by omega
   have b4 : ¬ o.kind = 4 := by omega
   have b5 : ¬ o.kind = 5 := by omega
   have b6 : ¬ o.kind = 6 := by omega
   simp [lS, lO, d0, d4, a2, a3, b4, b5, b6]
   refine (caseAny_spec lp sk1 hc (F := fun c => decide ((s.chans.length : Int) ≤ c.chan)) fun h1 x k1 => known1_spec lp (q.on k1)).mono ?_
   rintro r h2 ⟨rfl, k2⟩
   simp
   exact kap.trans k2
theorem taskRow {h : Heap} {v : CV} {l : List TaskV} {P : Nat → Prop} (s : Sl taskC h P v l) {i : Nat} (hi : i < l.length) :
  ∃ b o pv, idxAddrV 5 v (.int .i64 (i : Int)) = some (.ptr b o) ∧ loadAt h b o (some 5) = some (.agg (tkL l[i] pv)) ∧ loadAt h b o none = some (.str l[i].name) ∧ Sl opC h P pv l[i].prog := by
 obtain ⟨bb, ob, row, x1, x2, x3, pv, hrow, sp⟩ := s.row (k := .i64) (by decide) hi
 have y0 := x3 0 (by decide)
 subst hrow
 rw [Nat.add_zero] at y0
 exact ⟨bb, ob, pv, x1, x2, y0, sp⟩
theorem tkL_flat {t : TaskV} {pv : CV} (h : pv.scalar = true) : (tkL t pv).all CV.scalar = true := by
 simp [tkL, h]
def hasName (l : List TaskV) (n : List UInt8) : Bool := l.any fun u => decide (u.name = n)
def FnInv (tv : CV) (n : List UInt8) (l : List TaskV) (h : Heap) (m : Nat) (e : Env) (h' : Heap) : Prop :=
 ∃ i : Nat, i ≤ l.length ∧ m = l.length - i ∧ e = [(1, .str n), (9, tv), (10, .int .i64 l.length), (11, .int .i64 i)] ∧ Keep NoneOf h h' ∧ hasName (l.take i) n = false
def FindQ (s : SetV) (n : List UInt8) (h : Heap) (r : CV) (h' : Heap) : Prop :=
 (∃ (k : Nat) (b : Bool), r = .tup [.int .i64 (k : Int), .bool b] ∧ b = hasName s.tasks n ∧ (b = true → ∃ t, s.tasks[k]? = some t ∧ t.name = n ∧ hasName (s.tasks.take k) n = false) ∧ (b = false → k = 0)) ∧ Keep NoneOf h h'
theorem find_spec (lp : LP p) {h : Heap} {P : Nat → Prop} {s : SetV} {c : List CV} {n : List UInt8} (rs : setC.rep h P c s) (hl : s.tasks.length ≤ 1000) :
  WF p 285 [.agg c, .str n] h (FindQ s n h) := by
 refine WF_of (by rw [lp.pg]; exact S.pg285) (lp.no ⟨rfl, rfl⟩) ?_
 show W p S.b285 _ _ (retQ [.t 4, .t 5] _)
 unfold S.b285
 obtain ⟨cv, tv, hc0, sc, st⟩ := rs
 have kap := Keep.app NoneOf h [.arr c .tight]
 have lS := ld (get_new (h := h) (o := .arr c .tight))
 have st1 := st.on kap
 have n0 := st1.len (by decide)
 have s2 : c[2]? = some tv := by subst hc0; rfl
 clear hc0
 simp [lS, s2, n0]
 refine W_loop (FnInv tv n s.tasks h) ?_ s.tasks.length ⟨0, by omega, by omega, rfl, kap, rfl⟩
 rintro m e h1 ⟨i, hi, rfl, rfl, k1, hno⟩
 by_cases hie : i = s.tasks.length
 ·subst hie
  rw [List.take_length] at hno
  simp
  exact ⟨⟨0, false, rfl, hno.symm, (fun e => by cases e), fun _ => rfl⟩, k1⟩
 ·have hlt : i < s.tasks.length := by omega
  have hlt' : (i : Int) < s.tasks.length := by omega
  have hw : IntKind.i64.wrap ((i : Int) + 1) = ((i + 1 : Nat) : Int) := by rw [w64 (by omega) (by omega)]; omega
  obtain ⟨b0, o0, pv, x1, x2, x3, sp⟩ := taskRow (st.on k1) hlt
  have st5 := store_new (h := h1) (row := tkL s.tasks[i] pv) (z := [.str [], .int .i64 0, .int .i64 0, .int .i64 0, .nils]) rfl (tkL_flat sp.scalar)
  have lT := ld (get_new (h := h1) (o := .arr (tkL s.tasks[i] pv) .tight))
  have ff : fits (some 5) (.agg (tkL s.tasks[i] pv)) = true := rfl
  have t0 : (tkL s.tasks[i] pv)[0]? = some (.str s.tasks[i].name) := rfl
  have x2n := load_on x2 (Keep.app NoneOf h1 [.arr [.str [], .int .i64 0, .int .i64 0, .int .i64 0, .nils] .tight]) (some 5) o0
  by_cases hn : s.tasks[i].name = n
  ·have ha : hasName s.tasks n = true := List.any_eq_true.2 ⟨_, List.getElem_mem hlt, by simpa using hn⟩
   simp [hlt', x1, x2, st5, ff, lT, t0, hn]
   exact ⟨⟨i, true, rfl, ha.symm, fun _ => ⟨s.tasks[i], List.getElem?_eq_getElem hlt, hn, hno⟩, fun e => by cases e⟩, k1.trans (Keep.app _ _ _)⟩
  ·simp [hlt', x1, x2, st5, ff, lT, t0, hn, hw]
   refine ⟨s.tasks.length - (i + 1), by omega, i + 1, by omega, rfl, rfl, k1.trans (Keep.app _ _ _), ?_⟩
   rw [← List.take_append_getElem hlt]
   unfold hasName at *
   rw [List.any_append, hno]
   simp [hn]
def TnInv (b : Nat) (pv : CV) (l : List OpV) (s : SetV) (h : Heap) (m : Nat) (e : Env) (h' : Heap) : Prop :=
 ∃ i : Nat, i ≤ l.length ∧ m = l.length - i ∧ e = [(2, .ptr b 0), (77, pv), (78, .int .i64 l.length), (79, .int .i64 i)] ∧ Keep NoneOf h h' ∧ (l.take i).all (knownP s) = true
theorem task_spec (lp : LP p) {h : Heap} {P : Nat → Prop} {s : SetV} {c : List CV} (rs : setC.rep h P c s) (hl : s.tasks.length ≤ 1000) {i : Nat} (hi : i < s.tasks.length) (hp : s.tasks[i].prog.length ≤ big) (hc : ∀ o ∈ s.tasks[i].prog, o.cases.length ≤ 1000000) (hn : s.tasks[i].name.length ≤ 9223372036854775807) :
  WF p 273 [.agg c, .int .i64 (i : Int)] h fun r h' => r = .int .i64 (taskP s i s.tasks[i]) ∧ Keep NoneOf h h' := by
 refine WF_of (by rw [lp.pg]; exact S.pg273) (lp.no ⟨rfl, rfl⟩) ?_
 show W p S.b273 _ _ (retQ [.t 4] _)
 unfold S.b273
 have rs0 := rs
 obtain ⟨cv, tv, hc0, sc, st⟩ := rs
 have cl := setC.len rs0
 have kap := Keep.app NoneOf h [.arr c .tight]
 have gS := get_new (h := h) (o := .arr c .tight)
 have lS := ld gS
 have st1 := st.on kap
 have s2 : c[2]? = some tv := by subst hc0; rfl
 clear hc0 sc
 obtain ⟨b0, o0, pv, x1, x2, x3, sp⟩ := taskRow st1 hi
 have hlt' : (i : Int) < s.tasks.length := by omega
 have st5 := store_new2 (h := h) (o := .arr c .tight) (row := tkL s.tasks[i] pv) (z := [.str [], .int .i64 0, .int .i64 0, .int .i64 0, .nils]) rfl (tkL_flat sp.scalar)
 have ff : fits (some 5) (.agg (tkL s.tasks[i] pv)) = true := rfl
 have kT : Keep NoneOf h (h ++ [.arr c .tight, .arr (tkL s.tasks[i] pv) .tight]) := Keep.app _ _ _
 have k12 : Keep NoneOf (h ++ [.arr c .tight]) (h ++ [.arr c .tight, .arr (tkL s.tasks[i] pv) .tight]) := by
  have := Keep.app NoneOf (h ++ [.arr c .tight]) [.arr (tkL s.tasks[i] pv) .tight]
  rw [List.append_assoc] at this
  exact this
 have gS2 : (h ++ [.arr c .tight, .arr (tkL s.tasks[i] pv) .tight])[h.length]? = some (.arr c .tight) := by simp
 have gT : (h ++ [.arr c .tight, .arr (tkL s.tasks[i] pv) .tight])[h.length + 1]? = some (.arr (tkL s.tasks[i] pv) .tight) := by simp
 have spT := sp.on k12
 have rsT := setC.on rs0 kT
 have tn : taskP s i s.tasks[i] = taskP s i s.tasks[i] := rfl
 generalize hT : s.tasks[i] = t at *
 have t0 : (tkL t pv)[0]? = some (.str t.name) := rfl
 have t1 : (tkL t pv)[1]? = some (.int .i64 t.per) := rfl
 have t2 : (tkL t pv)[2]? = some (.int .i64 t.dl) := rfl
 have t3 : (tkL t pv)[3]? = some (.int .i64 t.bud) := rfl
 have t4 : (tkL t pv)[4]? = some pv := rfl
 have lT := ld gT
 simp [lS, s2, x1, x2, st5, ff, lT, t0]
 generalize h ++ [Obj.arr c .tight, Obj.arr (tkL t pv) .tight] = H at *
 refine (wordName_spec lp hn).mono ?_
 rintro r h1 ⟨rfl, rfl⟩
 cases hname : nameP t.name with
 | false =>
   have e : taskP s i t = 3 := by unfold taskP; rw [if_pos hname]
   simp [e]
   exact kT
 | true =>
   have lSn := ldw gS2 cl
   have cl3 : setC.n = 3 := rfl
   rw [cl3] at lSn
   simp [lSn, lT, t0]
   refine (find_spec lp rsT hl).mono ?_
   rintro r h2 ⟨⟨k, b, rfl, hb, hb1, hb0⟩, k2⟩
   have hti : s.tasks[i]? = some t := by rw [List.getElem?_eq_getElem hi, hT]
   have hbt : b = true := by
    rw [hb]
    exact List.any_eq_true.2 ⟨t, List.mem_of_getElem? hti, by simp⟩
   obtain ⟨u, hu1, hu2, hu3⟩ := hb1 hbt
   have hki : k ≤ i := by
    rcases Nat.lt_or_ge i k with g | g
    ·exfalso
     have : hasName (s.tasks.take k) t.name = true := by
      refine List.any_eq_true.2 ⟨t, ?_, by simp⟩
      refine List.mem_of_getElem? (i := i) ?_
      rw [List.getElem?_take_of_lt g, hti]
     rw [hu3] at this; cases this
    ·exact g
   have hfirst : hasName (s.tasks.take i) t.name = decide (k < i) := by
    by_cases g : k < i
    ·have : hasName (s.tasks.take i) t.name = true := by
      refine List.any_eq_true.2 ⟨u, ?_, by simpa using hu2⟩
      refine List.mem_of_getElem? (i := k) ?_
      rw [List.getElem?_take_of_lt g, hu1]
     rw [this]; simp [g]
    ·have : k = i := by omega
     subst this
     rw [hu3]; simp
   subst hbt
   have K2 := kT.trans k2
   by_cases g : k < i
   ·have g' : (k : Int) < i := by omega
    have e : taskP s i t = 6 := by
     unfold taskP
     rw [if_neg (by simp [hname]), if_pos (by rw [show (s.tasks.take i).any (fun u => decide (u.name = t.name)) = hasName (s.tasks.take i) t.name from rfl, hfirst]; simpa using g)]
    simp [g', g, e]
    exact K2
   ·have g' : ¬ (k : Int) < i := by omega
    have e6 : ¬ (s.tasks.take i).any (fun u => decide (u.name = t.name)) = true := by
     rw [show (s.tasks.take i).any (fun u => decide (u.name = t.name)) = hasName (s.tasks.take i) t.name from rfl, hfirst]; simpa using g
    have lT2 := ld (k2.at gT id)
    have gS3 := k2.at gS2 id
    have spT2 := spT.on k2
    have rsT2 := setC.on rsT k2
    have eT : timesBad t = true → taskP s i t = 1 := fun q => by
     unfold taskP
     rw [if_neg (by simp [hname]), if_neg e6, if_pos q]
    by_cases a1 : t.per < 1
    ·have e := eT (by simp [timesBad, a1])
     simp [g', g, lT2, t1, t2, t3, a1, e]
     exact K2
    by_cases a2 : 1099511627776 < t.per
    ·have e := eT (by simp [timesBad, a2])
     simp [g', g, lT2, t1, t2, t3, a1, a2, e]
     exact K2
    by_cases a3 : t.dl < 1
    ·have e := eT (by simp [timesBad, a3])
     simp [g', g, lT2, t1, t2, t3, a1, a2, a3, e]
     exact K2
    by_cases a4 : t.per < t.dl
    ·have e := eT (by simp [timesBad, a4])
     simp [g', g, lT2, t1, t2, t3, a1, a2, a3, a4, e]
     exact K2
    by_cases a5 : t.bud < 1
    ·have e := eT (by simp [timesBad, a5])
     simp [g', g, lT2, t1, t2, t3, a1, a2, a3, a4, a5, e]
     exact K2
    by_cases a6 : t.dl < t.bud
    ·have e := eT (by simp [timesBad, a6])
     simp [g', g, lT2, t1, t2, t3, a1, a2, a3, a4, a5, a6, e]
     exact K2
    have hT0 : ¬ timesBad t = true := by simp [timesBad]; omega
    simp [g', g, lT2, t1, t2, t3, t4, a1, a2, a3, a4, a5, a6]
    refine (progCheck_spec lp spT2 hp hc).mono ?_
    rintro r h3 ⟨rfl, k3⟩
    have K3 := K2.trans k3
    have lT3 := ld (k3.at (k2.at gT id) id)
    have spT3 := spT2.on k3
    have gS4 := k3.at gS3 id
    have rsT3 := setC.on rsT2 k3
    by_cases b1 : (progP t.prog).2 = 0
    ·obtain ⟨h48, hok, _, s', ho, hs2, _⟩ := prog_ok b1
     have hfit : ∀ o ∈ t.prog, opFit o := fun o ho => opFit_of (hok o ho)
     have hdep : depthOk t.prog 0 := by have := order_depth _ _ _ _ ho; simpa using this
     simp [b1, lT3, t4]
     refine (cost_spec lp spT3 (by omega) hdep hfit).mono ?_
     rintro r h4 ⟨rfl, k4⟩
     have K4 := K3.trans k4
     have lT4 := ld (k4.at (k3.at (k2.at gT id) id) id)
     have spT4 := spT3.on k4
     have gS5 := k4.at gS4 id
     have rsT4 := setC.on rsT3 k4
     by_cases b2 : costP t.prog = 0
     ·have e : taskP s i t = 5 := by
       unfold taskP
       rw [if_neg (by simp [hname]), if_neg e6, if_neg hT0, if_neg (by simp [b1]), if_pos b2]
      simp [b2, e]
      exact K4
     ·have hE : taskP s i t = if t.prog.all (knownP s) = true then 0 else 3 := by
       unfold taskP
       rw [if_neg (by simp [hname]), if_neg e6, if_neg hT0, if_neg (by simp [b1]), if_neg b2]
      have np := spT4.len (by decide)
      simp [b2, lT4, t4, np]
      refine W_loop (TnInv h.length pv t.prog s h4) ?_ t.prog.length ⟨0, by omega, by omega, rfl, Keep.refl _ _, rfl⟩
      rintro m e h5 ⟨j, hj, rfl, rfl, k5, hall⟩
      by_cases hje : j = t.prog.length
      ·subst hje
       rw [List.take_length] at hall
       rw [if_pos hall] at hE
       simp [hE]
       exact K4.trans k5
      ·have hlt : j < t.prog.length := by omega
       have hltj : (j : Int) < t.prog.length := by omega
       have hw : IntKind.i64.wrap ((j : Int) + 1) = ((j + 1 : Nat) : Int) := by rw [w64 (by omega) (by omega)]; omega
       obtain ⟨b6, o6, row, y1, y2, y3, y4, y5, y6⟩ := opRow (spT4.on k5) hlt
       have st6 := store_new (h := h5) (row := row) (z := [.int .i64 0, .int .i64 0, .int .i64 0, .int .i64 0, .nils]) y6 (opC.flat y5)
       have kap6 := Keep.app NoneOf h5 [.arr row .tight]
       have lR6 := ldw (get_new (h := h5) (o := .arr row .tight)) y6
       have lS6 := ldw (kap6.at (k5.at gS5 id) id) cl
       rw [cl3] at lS6
       have ff6 : fits (some 5) (.agg row) = true := by simp [y6]
       simp [hltj, y1, y2, st6, ff6, lR6, lS6]
       refine (known_spec lp (setC.on (setC.on rsT4 k5) kap6) (opC.on y5 kap6) (by have := hc _ (List.getElem_mem hlt); simp [big]; omega)).mono ?_
       rintro r h6 ⟨rfl, k6⟩
       have K6 := (K4.trans k5).trans (kap6.trans k6)
       cases hkn : knownP s t.prog[j] with
       | true =>
         simp [hw]
         refine ⟨t.prog.length - (j + 1), by omega, j + 1, by omega, rfl, rfl, k5.trans (kap6.trans k6), ?_⟩
         rw [← List.take_append_getElem hlt, List.all_append, hall]
         simp [hkn]
       | false =>
         have hnall : ¬ t.prog.all (knownP s) = true := fun q => by
          have := List.all_eq_true.1 q _ (List.getElem_mem hlt)
          rw [hkn] at this; cases this
         rw [if_neg hnall] at hE
         simp [hE]
         exact K6
    ·have e : taskP s i t = (progP t.prog).2 := by
      unfold taskP
      rw [if_neg (by simp [hname]), if_neg e6, if_neg hT0, if_pos b1]
     simp [b1, e]
     exact K3
structure SetV.Sane (s : SetV) : Prop where
 p : ∀ t ∈ s.tasks, t.prog.length ≤ big ∧ (∀ o ∈ t.prog, o.cases.length ≤ 1000000) ∧ t.name.length ≤ 9223372036854775807
 c : s.chans.length ≤ big
 t : s.tasks.length ≤ big
def ScA (b : Nat) (cv : CV) (s : SetV) (h : Heap) (m : Nat) (e : Env) (h' : Heap) : Prop :=
 ∃ i : Nat, i ≤ s.chans.length ∧ m = s.chans.length - i ∧ e = [(1, .ptr b 0), (33, cv), (34, .int .i64 s.chans.length), (35, .int .i64 i)] ∧ Keep NoneOf h h' ∧ (s.chans.take i).any (chanBad s) = false
def ScB (b : Nat) (s : SetV) (h : Heap) (m : Nat) (e : Env) (h' : Heap) : Prop :=
 ∃ i : Nat, i ≤ s.tasks.length ∧ m = s.tasks.length - i ∧ e = [(1, .ptr b 0), (63, .int .i64 s.tasks.length), (64, .int .i64 i)] ∧ Keep NoneOf h h' ∧ tasksGo s 0 s.tasks = tasksGo s i (s.tasks.drop i)
theorem setCheck_spec (lp : LP p) {h : Heap} {P : Nat → Prop} {s : SetV} {c : List CV} (rs : setC.rep h P c s) (hs : s.Sane) :
  WF p 265 [.agg c] h fun r h' => r = .tup [.int .i64 (setP s).1, .int .i64 (setP s).2] ∧ Keep NoneOf h h' := by
 refine WF_of (by rw [lp.pg]; exact S.pg265) (lp.no ⟨rfl, rfl⟩) ?_
 show W p S.b265 _ _ (retQ [.t 2, .t 3] _)
 unfold S.b265
 have cl := setC.len rs
 have cl3 : setC.n = 3 := rfl
 have kap := Keep.app NoneOf h [.arr c .tight]
 have gS := get_new (h := h) (o := .arr c .tight)
 have lS := ld gS
 have rs1 := setC.on rs kap
 obtain ⟨cv, tv, hc0, sc, st⟩ := rs
 have s0 : c[0]? = some (.int .i64 s.locks) := by subst hc0; rfl
 have s1 : c[1]? = some cv := by subst hc0; rfl
 have s2 : c[2]? = some tv := by subst hc0; rfl
 clear hc0
 have sc1 := sc.on kap
 have st1 := st.on kap
 have nc := sc1.len (by decide)
 have nt := st1.len (by decide)
 by_cases a1 : s.locks < 0
 ·have e : setP s = (0, 1) := by unfold setP; rw [if_pos (.inl a1)]
  simp [lS, s0, a1, e]
  exact kap
 by_cases a2 : 8 < s.locks
 ·have e : setP s = (0, 1) := by unfold setP; rw [if_pos (.inr a2)]
  simp [lS, s0, a1, a2, e]
  exact kap
 by_cases a3 : 8 < s.chans.length
 ·have e : setP s = (0, 18) := by unfold setP; rw [if_neg (by omega), if_pos (.inl a3)]
  have a3' : (8 : Int) < s.chans.length := by omega
  simp [lS, s0, s1, s2, nc, nt, a1, a2, a3, a3', e]
  exact kap
 have a3' : ¬ (8 : Int) < s.chans.length := by omega
 by_cases a4 : s.tasks.length < 1
 ·have e : setP s = (0, 18) := by unfold setP; rw [if_neg (by omega), if_pos (.inr (.inl a4))]
  have a4' : (s.tasks.length : Int) < 1 := by omega
  have a4'' : s.tasks.length = 0 := by omega
  simp [lS, s0, s1, s2, nc, nt, a1, a2, a3, a3', a4, a4', a4'', e]
  exact kap
 have a4' : ¬ (s.tasks.length : Int) < 1 := by omega
 have a4'' : ¬ s.tasks.length = 0 := by omega
 by_cases a5 : 12 < s.tasks.length
 ·have e : setP s = (0, 18) := by unfold setP; rw [if_neg (by omega), if_pos (.inr (.inr a5))]
  have a5' : (12 : Int) < s.tasks.length := by omega
  simp [lS, s0, s1, s2, nc, nt, a1, a2, a3, a3', a4, a4', a4'', a5, a5', e]
  exact kap
 have a5' : ¬ (12 : Int) < s.tasks.length := by omega
 have hE : setP s = if s.chans.any (chanBad s) = true then (0, 1) else tasksGo s 0 s.tasks := by
  unfold setP
  rw [if_neg (by omega), if_neg (by omega)]
 simp [lS, s0, s1, s2, nc, nt, a1, a2, a3, a3', a4, a4', a4'', a5, a5']
 generalize h ++ [Obj.arr c .tight] = H at *
 refine W_loop (ScA h.length cv s H) ?_ s.chans.length ⟨0, by omega, by omega, rfl, Keep.refl _ _, rfl⟩
 rintro m e h1 ⟨i, hi, rfl, rfl, k1, hno⟩
 have lS1 := ld (k1.at gS id)
 have nt1 := (st1.on k1).len (by decide)
 by_cases hie : i = s.chans.length
 ·subst hie
  rw [List.take_length] at hno
  rw [if_neg (by simp [hno])] at hE
  simp [lS1, s2, nt1]
  refine W_loop (ScB h.length s h1) ?_ s.tasks.length ⟨0, by omega, by omega, rfl, Keep.refl _ _, rfl⟩
  rintro m e h2 ⟨j, hj, rfl, rfl, k2, hgo⟩
  by_cases hje : j = s.tasks.length
  ·subst hje
   rw [List.drop_length, tasksGo] at hgo
   rw [hgo] at hE
   simp [hE]
   exact (kap.trans k1).trans k2
  ·have hlt : j < s.tasks.length := by omega
   have hlt' : (j : Int) < s.tasks.length := by omega
   have hw : IntKind.i64.wrap ((j : Int) + 1) = ((j + 1 : Nat) : Int) := by rw [w64 (by omega) (by omega)]; omega
   have lW := ldw (k2.at (k1.at gS id) id) cl
   rw [cl3] at lW
   have hsn := hs.p _ (List.getElem_mem hlt)
   rw [List.drop_eq_getElem_cons hlt, tasksGo] at hgo
   simp [hlt', lW]
   refine (task_spec lp (setC.on (setC.on rs1 k1) k2) (by omega) hlt hsn.1 hsn.2.1 hsn.2.2).mono ?_
   rintro r h3 ⟨rfl, k3⟩
   by_cases h0 : taskP s j s.tasks[j] = 0
   ·rw [if_pos h0] at hgo
    simp [h0, hw]
    exact ⟨s.tasks.length - (j + 1), by omega, j + 1, by omega, rfl, rfl, k2.trans k3, hgo⟩
   ·rw [if_neg h0] at hgo
    rw [hgo] at hE
    simp [h0, hE]
    exact ((kap.trans k1).trans k2).trans k3
 ·have hlt : i < s.chans.length := by omega
  have hlt' : (i : Int) < s.chans.length := by omega
  have hw : IntKind.i64.wrap ((i : Int) + 1) = ((i + 1 : Nat) : Int) := by rw [w64 (by omega) (by omega)]; omega
  obtain ⟨b0, o0, row, x1, x2, x3, x4⟩ := (sc1.on k1).row (k := .i64) (by decide) hlt
  have x4 : row = chL s.chans[i] := x4
  subst x4
  simp only [chanC] at x1 x2
  have st2 := store_new (h := h1) (row := chL s.chans[i]) (z := [.int .i64 0, .int .i64 0]) rfl rfl
  have lC := ld (get_new (h := h1) (o := .arr (chL s.chans[i]) .tight))
  have kap1 := Keep.app NoneOf h1 [.arr (chL s.chans[i]) .tight]
  have lS2 := ld (kap1.at (k1.at gS id) id)
  have nt2 := ((st1.on k1).on kap1).len (by decide)
  have ff : fits (some 2) (.agg (chL s.chans[i])) = true := rfl
  have q0 : (chL s.chans[i])[0]? = some (.int .i64 s.chans[i].room) := rfl
  have q1 : (chL s.chans[i])[1]? = some (.int .i64 s.chans[i].server) := rfl
  have bad : chanBad s s.chans[i] = true → setP s = (0, 1) := fun q => by
   rw [hE, if_pos (List.any_eq_true.2 ⟨_, List.getElem_mem hlt, q⟩)]
  by_cases b1 : s.chans[i].room < 0
  ·have e := bad (by simp [chanBad, b1])
   simp [hlt', x1, x2, st2, ff, lC, lS2, s2, nt2, q0, q1, b1, e]
   exact (kap.trans k1).trans kap1
  by_cases b2 : 16 < s.chans[i].room
  ·have e := bad (by simp [chanBad, b2])
   simp [hlt', x1, x2, st2, ff, lC, lS2, s2, nt2, q0, q1, b1, b2, e]
   exact (kap.trans k1).trans kap1
  by_cases b3 : s.chans[i].server < -1
  ·have e := bad (by simp [chanBad, b3])
   simp [hlt', x1, x2, st2, ff, lC, lS2, s2, nt2, q0, q1, b1, b2, b3, e]
   exact (kap.trans k1).trans kap1
  by_cases b4 : (s.tasks.length : Int) ≤ s.chans[i].server
  ·have e := bad (by simp [chanBad, b4])
   simp [hlt', x1, x2, st2, ff, lC, lS2, s2, nt2, q0, q1, b1, b2, b3, b4, e]
   exact (kap.trans k1).trans kap1
  ·simp [hlt', x1, x2, st2, ff, lC, lS2, s2, nt2, q0, q1, b1, b2, b3, b4, hw]
   refine ⟨s.chans.length - (i + 1), by omega, i + 1, by omega, rfl, rfl, k1.trans kap1, ?_⟩
   rw [← List.take_append_getElem hlt, List.any_append, hno]
   simp [chanBad, b1, b2, b3, b4]
theorem small_spec (lp : LP p) {n : Int} {h : Heap} : WF p 299 [.int .i64 n] h fun r h' => r = .tup [.int .i64 (small32 n).1, .int .i64 (small32 n).2] ∧ h' = h := by
 refine WF_of (by rw [lp.pg]; exact S.pg299) (lp.no ⟨rfl, rfl⟩) ?_
 show W p S.b299 _ _ (retQ [.t 2, .t 3] _)
 unfold S.b299
 by_cases h1 : n < -2147483648
 ·have e : small32 n = (0, 14) := by unfold small32; rw [if_pos (.inl h1)]
  simp [h1, e]
 ·by_cases h2 : 2147483647 < n
  ·have e : small32 n = (0, 14) := by unfold small32; rw [if_pos (.inr h2)]
   simp [h1, h2, e]
  ·have e : small32 n = (n, 0) := by unfold small32; rw [if_neg (by omega)]
   simp [h1, h2, e]
theorem count_spec (lp : LP p) {w : List UInt8} {h : Heap} (hw : w.length < 4294967281) : WF p 289 [.str w] h fun r h' => r = .tup [.int .i64 (countW w).1, .int .i64 (countW w).2] ∧ Keep NoneOf h h' := by
 refine WF_of (by rw [lp.pg]; exact S.pg289) (lp.no ⟨rfl, rfl⟩) ?_
 show W p S.b289 _ _ (retQ [.t 2, .t 3] _)
 unfold S.b289
 simp
 refine (wordNumber_spec lp hw).mono ?_
 rintro r h1 ⟨rfl, k1⟩
 unfold countW
 generalize numP w = N
 obtain ⟨n, e⟩ := N
 by_cases he : e = 0
 ·subst he
  simp
  refine (small_spec lp).mono ?_
  rintro r h2 ⟨rfl, rfl⟩
  simp
  exact k1
 ·simp [he]
  exact k1
theorem serves_spec (lp : LP p) {w : List UInt8} {h : Heap} (hw : w.length < 4294967281) : WF p 290 [.str w] h fun r h' => r = .tup [.int .i64 (servesR w).1, .int .i64 (servesR w).2] ∧ Keep NoneOf h h' := by
 refine WF_of (by rw [lp.pg]; exact S.pg290) (lp.no ⟨rfl, rfl⟩) ?_
 show W p S.b290 _ _ (retQ [.t 2, .t 3] _)
 unfold S.b290
 by_cases hd : w = [45]
 ·have e : servesR w = (-1, 0) := by unfold servesR; rw [if_pos hd]
  rw [e]
  simp [hd]
  exact Keep.refl _ _
 ·simp [hd]
  refine (wordNumber_spec lp hw).mono ?_
  rintro r h1 ⟨rfl, k1⟩
  unfold servesR
  rw [if_neg hd]
  generalize numP w = N
  obtain ⟨n, e⟩ := N
  by_cases he : e = 0
  ·subst he
   by_cases hn : n < 0
   ·simp [hn]
    exact k1
   ·simp [hn]
    refine (small_spec lp).mono ?_
    rintro r h2 ⟨rfl, rfl⟩
    simp
    exact k1
  ·simp [he]
   exact k1
theorem server_spec (lp : LP p) {n : Int} {h : Heap} (h0 : -9223372036854775808 ≤ n) (h1 : n ≤ 9223372036854775807) : WF p 266 [.int .i64 n] h fun r h' => r = .str (serveW n) ∧ h' = h := by
 refine WF_of (by rw [lp.pg]; exact S.pg266) (lp.no ⟨rfl, rfl⟩) ?_
 show W p S.b266 _ _ (retQ [.t 2] _)
 unfold S.b266
 by_cases hn : n < 0
 ·simp [hn, serveW]
 ·simp [hn]
  refine (wordText_spec lp h0 h1).mono ?_
  rintro r h2 ⟨rfl, rfl⟩
  simp [serveW, hn]
end Go.Cl
