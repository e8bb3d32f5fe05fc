/-
  Texts laid together: ATextF ATextS ATextG ATextH ATextI.
-/
import Derived.Test.YtdbakplieenefaaGreatDoorMD
import Derived.Test.YtdbakplieenefaaGreatDoorMA
import Derived.Test.YtdbakplieenefaaGreatDoorMC
namespace Go.Cl
open Go
set_option linter.unusedSimpArgs false
set_option linter.unusedVariables false
set_option maxHeartbeats 2000000
variable {p : PP}
theorem setTo_spec (hpg : p.Pg = S.pg) (q249 : p.pr 249 = none) (q60 : p.pr 60 = none) (q68 : p.pr 68 = none) {h : Heap} {c : List CV} {x : SetV} {P : Nat → Prop} (r0 : setC.rep h P c x) (hx : x.Fit) :
  WF p 249 [.agg c] h fun r h' => Keep NoneOf h h' ∧ ∃ d, r = .agg d ∧ setC.rep h' (From h) d x := by
 obtain ⟨cv, tv0, hC, sc, stk⟩ := r0
 refine WF_of (by rw [hpg]; exact S.pg249) q249 ?_
 show W p S.b249 _ _ (retQ [.cell (some 3) 2] _)
 unfold S.b249
 have c0 : c[0]? = some (.int .i64 x.locks) := by subst hC; rfl
 have c1 : c[1]? = some cv := by subst hC; rfl
 have c2 : c[2]? = some tv0 := by subst hC; rfl
 clear hC
 have ca : ∀ l, (CV.agg l).cells = l := fun _ => rfl
 have l0 : ∀ (o1 : Obj) o, loadAt (h ++ [.arr c .tight, o1]) h.length o none = c[o]? := fun o1 o => two0 o
 have f1 : fillC [.int .i64 0, .nils, .nils] [(0, 1, .int .i64 x.locks)] = some [.int .i64 x.locks, .nils, .nils] := rfl
 have st : storeAt (h ++ [.arr c .tight, .arr [.int .i64 0, .nils, .nils] .tight, .arr [.int .i64 0, .nils, .nils] .tight]) (h.length + 2) 0 [.int .i64 x.locks, .nils, .nils] = some (h ++ [.arr c .tight, .arr [.int .i64 0, .nils, .nils] .tight, .arr [.int .i64 x.locks, .nils, .nils] .tight]) := by
  have := store_new (h := h ++ [.arr c .tight, .arr [.int .i64 0, .nils, .nils] .tight]) (row := [.int .i64 x.locks, .nils, .nils]) (z := [.int .i64 0, .nils, .nils]) rfl rfl
  simpa using this
 simp [ca, l0, c0, f1, st]
 refine W_loop (SoI h c x) ?_ x.chans.length ⟨0, .nils, by omega, by omega, rfl, Keep.app _ _ _, by simp, by simp, by simp, by simpa using OwnL.nil, by simpa using OwnN.nil, by simp [CV.blk], by simp [CV.blk], by simp [CV.blk]⟩
 rintro m e H ⟨i, ov, hi, rfl, rfl, q⟩
 have hfc := hx.c
 have hft := hx.t
 have l0 := ld q.g0
 have l2 := ld q.g2
 have s0 := sc.on q.k
 have n0 := s0.len (by decide)
 have lO : ∀ v w : CV, ([.int .i64 x.locks, v, w] : List CV).length = 3 := fun _ _ => rfl
 by_cases hie : i = x.chans.length
 ·subst hie
  simp [l0, c1, n0]
  refine W_loop (SoJ h c x) ?_ x.tasks.length ⟨0, ov, .nils, by omega, by omega, rfl, q⟩
  clear q l0 l2 s0 n0 hi
  rintro m e H ⟨j, ov, tv, hj, rfl, rfl, q⟩
  have l0 := ld q.g0
  have l2 := ld q.g2
  have s0 := stk.on q.k
  have n0 := s0.len (by decide)
  by_cases hje : j = x.tasks.length
  ·subst hje
   have w2 := ldw q.g2 (lO ov tv)
   have hso := q.oc.scalar
   have hst := q.ot.scalar
   have s1 := sto q.g1 (vs := [.int .i64 x.locks, ov, tv]) rfl (by simp only [List.all_cons, List.all_nil, hso, hst]; rfl)
   have ke : Keep (fun b => b = h.length + 1) H (H.set (h.length + 1) (.arr [.int .i64 x.locks, ov, tv] .tight)) := Keep.set _ _ rfl
   have w1 := ldw (get_set_self (o := .arr [.int .i64 x.locks, ov, tv] .tight) (lt_of_get q.g1)) (lO ov tv)
   simp [l0, c2, n0, w2, ca, s1, w1]
   refine ⟨q.k.then ke fun b hb e => by omega, ov, tv, rfl, ?_, ?_⟩
   ·have := (q.oc.keep ke (fun b hb e => by have := q.bo b hb; omega) fun _ e => e.elim).sl
    rw [List.take_length] at this
    exact this.mono fun b hb => by
     rcases hb with hb | hb
     ·exact hb.elim
     ·have := q.bo b hb; simp only [From]; omega
   ·have := (OwnN.keep q.ot ke (fun b hb e => by have := q.bt b hb; omega) fun b hb _ _ e => by omega).sl q.bt
    rw [List.take_length] at this
    exact this.mono fun b hb => by simp only [From]; omega
  ·have hlt : j < x.tasks.length := by omega
   have hlt' : (j : Int) < x.tasks.length := by omega
   obtain ⟨bb, o, row, x1, x2, x3, x4⟩ := s0.row (k := .i64) (by decide) hlt
   have hrl : row.length = 5 := taskC.len x4
   have hrf := taskC.flat x4
   obtain ⟨pv, hrow, sp⟩ := x4
   simp only [taskC] at x1 x2
   have hw : IntKind.i64.wrap ((j : Int) + 1) = ((j + 1 : Nat) : Int) := by rw [w64 (by omega) (by omega)]; omega
   have hfit : fits (some 5) (.agg row) = true := by rw [hrow]; rfl
   have st6 := store_new (h := H) (row := row) (z := [.str [], .int .i64 0, .int .i64 0, .int .i64 0, .nils]) (by rw [hrl]; rfl) hrf
   have kap : Keep NoneOf H (H ++ [.arr row .tight]) := Keep.app _ _ _
   have g6 : (H ++ [Obj.arr row .tight])[H.length]? = some (.arr row .tight) := by simp
   have l6 := ld g6
   have l2' := ld (kap.at q.g2 id)
   have r0 : row[0]? = some (.str x.tasks[j].name) := by rw [hrow]; rfl
   have r1 : row[1]? = some (.int .i64 x.tasks[j].per) := by rw [hrow]; rfl
   have r2 : row[2]? = some (.int .i64 x.tasks[j].dl) := by rw [hrow]; rfl
   have r3 : row[3]? = some (.int .i64 x.tasks[j].bud) := by rw [hrow]; rfl
   have r4 : row[4]? = some pv := by rw [hrow]; rfl
   have hpf := hx.p x.tasks[j] (List.getElem_mem hlt)
   simp [l0, c2, n0, hlt, hlt', x1, x2, ca, hfit, st6, l6, l2', r0, r1, r2, r3, r4]
   refine WO_re_n ?_
   simp
   refine (opToAll_spec hpg q60 q68 (sp.on kap) (by simp [big]; omega) (fun o ho => by have := hpf.2 o ho; simp [big]; omega)).mono ?_
   rintro r H2 ⟨k2, so⟩
   have l62 := ld (k2.at g6 id)
   have g22 := k2.at (kap.at q.g2 id) id
   have l22 := ld g22
   refine ⟨fun c => by simp [recheckB, wanted, Env.get, cls, evOp, Opd.ev, withH, CV.eqb, l62, l22, r0, r1, r2, r3, r4, CV.eqb_refl], ?_⟩
   have hrs := so.scalar
   have f2 : fillC [.str [], .int .i64 0, .int .i64 0, .int .i64 0, .nils] [(0, 1, .str x.tasks[j].name), (1, 1, .int .i64 x.tasks[j].per), (2, 1, .int .i64 x.tasks[j].dl), (3, 1, .int .i64 x.tasks[j].bud), (4, 1, r)] = some (tkL x.tasks[j] r) := by
    simp [fillC, splice, CV.cells_scalar hrs, tkL]
   have f3 : fillC [.str [], .int .i64 0, .int .i64 0, .int .i64 0, .nils] [(0, 5, .agg (tkL x.tasks[j] r))] = some (tkL x.tasks[j] r) := rfl
   have htl : (tkL x.tasks[j] r).length = 5 := rfl
   have htt : List.take 5 (tkL x.tasks[j] r) = tkL x.tasks[j] r := rfl
   simp [f2, f3, spread, cellsAt, htl, htt]
   have kap2 : Keep NoneOf H2 (H2 ++ [.arr (tkL x.tasks[j] r) .tight]) := Keep.app _ _ _
   have K12 := (kap.trans k2).trans kap2
   have ot2 := OwnN.on q.ot K12
   have hHl : H.length < H2.length := lt_of_get (k2.at g6 id)
   have rt : taskC.rep (H2 ++ [.arr (tkL x.tasks[j] r) .tight]) (From (H ++ [.arr row .tight])) (tkL x.tasks[j] r) x.tasks[j] := ⟨r, rfl, so.on kap2⟩
   refine OV_pushN (e := taskC) (x := x.tasks[j]) ot2 rt (fun b hb hlt => ?_) (by simp [big]; omega) (by decide) ?_
   ·have hb : (H ++ [Obj.arr row .tight]).length ≤ b := hb
    have hlg := lt_of_get q.g2
    simp at hb
    exact ⟨by omega, fun hv => by have := OwnN.blk q.ot b hv; omega⟩
   ·intro tv' H3 o3 k3 hb3
    have hbt : ∀ b, tv'.blk = some b → h.length + 3 ≤ b := fun b hb => by
     rcases hb3 b hb with hq | hq
     ·exact q.bt b hq
     ·have := lt_of_get q.g2
      simp at hq
      omega
    have g23 := k3.at (kap2.at g22 id) (fun hv => by have := q.bt _ hv; omega)
    have g03 := k3.at (K12.at q.g0 id) (fun hv => by have := q.bt _ hv; omega)
    have g13 := k3.at (K12.at q.g1 id) (fun hv => by have := q.bt _ hv; omega)
    have hsc := OwnN.scalar o3
    have s3 := sto1 g23 (o := 2) (v := tv') (by rw [lO]; omega) hsc
    have hset : ([.int .i64 x.locks, ov, tv] : List CV).set 2 tv' = [.int .i64 x.locks, ov, tv'] := rfl
    rw [hset] at s3
    have fs := fits_scalar hsc
    have cs := CV.cells_scalar hsc
    have ke : Keep (fun b => b = h.length + 2) H3 (H3.set (h.length + 2) (.arr [.int .i64 x.locks, ov, tv'] .tight)) := Keep.set _ _ rfl
    simp [fs, cs, s3, hw]
    refine ⟨_, by omega, j + 1, ov, tv', by omega, rfl, rfl, ?_⟩
    have hov3 : ∀ b, tv'.blk = some b → ov.blk ≠ some b := fun b hb ho => by
     rcases hb3 b hb with hq | hq
     ·exact q.ap b ho hq
     ·have := q.oc.blk b ho
      have h2 := K12.len
      simp at hq h2
      omega
    refine ⟨((q.k.trans K12).then k3 fun b hb e => by have := q.bt b e; omega).then ke fun b hb e => by omega, ke.at g03 (by omega), ke.at g13 (by omega), get_set_self (lt_of_get g23), ?_, ?_, q.bo, hbt, fun b ho ht => hov3 b ht ho⟩
    ·exact ((q.oc.on K12).keep k3 (fun b hb hv => q.ap b hb hv) (fun _ hb => hb.elim)).keep ke (fun b hb e => by have := q.bo b hb; omega) (fun _ hb => hb.elim)
    ·have := OwnN.keep o3 ke (fun b hb e => by have := hbt b hb; omega) (fun b hb _ _ e => by omega)
     rwa [List.take_append_getElem hlt] at this
 ·have hlt : i < x.chans.length := by omega
  have hlt' : (i : Int) < x.chans.length := by omega
  obtain ⟨bb, o, row, x1, x2, x3, x4⟩ := s0.row (k := .i64) (by decide) hlt
  have x4 : row = chL x.chans[i] := x4
  simp only [chanC] at x1 x2 x3
  have y0 := x3 0 (by decide)
  have y1 := x3 1 (by decide)
  rw [x4] at y0 y1
  simp [chL] at y0 y1
  have hw : IntKind.i64.wrap ((i : Int) + 1) = ((i + 1 : Nat) : Int) := by rw [w64 (by omega) (by omega)]; omega
  have f2 : fillC [.int .i64 0, .int .i64 0] [(0, 1, .int .i64 x.chans[i].room), (1, 1, .int .i64 x.chans[i].server)] = some (chL x.chans[i]) := rfl
  have f3 : fillC [.int .i64 0, .int .i64 0] [(0, 2, .agg (chL x.chans[i]))] = some (chL x.chans[i]) := rfl
  have htl : (chL x.chans[i]).length = 2 := rfl
  have htt : List.take 2 (chL x.chans[i]) = chL x.chans[i] := rfl
  have kap : Keep NoneOf H (H ++ [.arr (chL x.chans[i]) .tight]) := Keep.app _ _ _
  simp [l0, c1, n0, l2, hlt, hlt', x1, y0, y1, f2, f3, spread, cellsAt, htl, htt]
  refine OV_push (e := chanC) (x := x.chans[i]) (q.oc.on kap) rfl (fun _ hb => hb.elim) (by simp [big]; omega) (by decide) ?_
  intro ov' H2 o2 k2 hb2
  have hbo : ∀ b, ov'.blk = some b → h.length + 3 ≤ b := fun b hb => by
   rcases hb2 b hb with hq | hq
   ·exact q.bo b hq
   ·have := lt_of_get q.g2
    simp at hq
    omega
  have g22 := k2.at (kap.at q.g2 id) (fun hv => by have := q.bo _ hv; omega)
  have g02 := k2.at (kap.at q.g0 id) (fun hv => by have := q.bo _ hv; omega)
  have g12 := k2.at (kap.at q.g1 id) (fun hv => by have := q.bo _ hv; omega)
  have hsc := o2.scalar
  have s3 := sto1 g22 (o := 1) (v := ov') (by rw [lO]; omega) hsc
  have hset : ([.int .i64 x.locks, ov, .nils] : List CV).set 1 ov' = [.int .i64 x.locks, ov', .nils] := rfl
  rw [hset] at s3
  have fs := fits_scalar hsc
  have cs := CV.cells_scalar hsc
  have ke : Keep (fun b => b = h.length + 2) H2 (H2.set (h.length + 2) (.arr [.int .i64 x.locks, ov', .nils] .tight)) := Keep.set _ _ rfl
  simp [fs, cs, s3, hw]
  refine ⟨_, by omega, i + 1, ov', by omega, rfl, rfl, ?_⟩
  refine ⟨((q.k.trans kap).then k2 fun b hb e => by have := q.bo b e; omega).then ke fun b hb e => by omega, ke.at g02 (by omega), ke.at g12 (by omega), get_set_self (lt_of_get g22), ?_, by simpa using OwnN.nil, hbo, by simp [CV.blk], by simp [CV.blk]⟩
  have := o2.keep ke (fun b hb e => by have := hbo b hb; omega) (fun _ hb => hb.elim)
  rwa [List.take_append_getElem hlt] at this
theorem app2 (H : Heap) (a b : Obj) : Keep NoneOf (H ++ [a]) (H ++ [a, b]) := by
 rw [show H ++ [a, b] = (H ++ [a]) ++ [b] by simp]; exact Keep.app _ _ _
theorem SetV.eq_iff (a b : SetV) : a = b ↔ a.locks = b.locks ∧ a.chans = b.chans ∧ a.tasks = b.tasks := by
 cases a; cases b; simp
theorem eqChan (a b : ChanV) : eqv (.st [.i, .i]) (.agg (chL a)) (.agg (chL b)) = some (decide (a = b)) := by
 cases a; cases b
 simp only [eqv, chL, List.length_cons, List.length_nil, and_self, if_true, eqCells, eqKind, ChanV.mk.injEq]
 rename_i a1 a2 b1 b2
 cases hA : (a1 == b1) <;> cases hB : (a2 == b2) <;> simp_all
def SsA (b0 : Nat) (x y : SetV) (h : Heap) (m : Nat) (e : Env) (h' : Heap) : Prop :=
 ∃ i : Nat, i ≤ x.chans.length ∧ m = x.chans.length - i ∧ e = [(2, .ptr b0 0), (3, .ptr (b0 + 1) 0), (5, .int .i64 i)] ∧ Keep NoneOf h h' ∧ x.chans.take i = y.chans.take i
def SsB (b0 : Nat) (x y : SetV) (h : Heap) (m : Nat) (e : Env) (h' : Heap) : Prop :=
 ∃ i : Nat, i ≤ x.tasks.length ∧ m = x.tasks.length - i ∧ e = [(2, .ptr b0 0), (3, .ptr (b0 + 1) 0), (6, .int .i64 i)] ∧ Keep NoneOf h h' ∧ x.tasks.take i = y.tasks.take i
theorem sameSet_spec (lp : LP p) {h : Heap} {P Q : Nat → Prop} {x y : SetV} {c d : List CV} (rx : setC.rep h P c x) (ry : setC.rep h Q d y) (hx : x.Sane) :
  WF p 253 [.agg c, .agg d] h fun r h' => r = .bool (decide (x = y)) ∧ Keep NoneOf h h' := by
 refine WF_of (by rw [lp.pg]; exact S.pg253) (lp.no ⟨rfl, rfl⟩) ?_
 show W p S.b253 _ _ (retQ [.t 4] _)
 unfold S.b253
 have kap := Keep.app NoneOf h [.arr c .tight, .arr d .tight]
 have gC : (h ++ [Obj.arr c .tight, .arr d .tight])[h.length]? = some (.arr c .tight) := by simp
 have gD : (h ++ [Obj.arr c .tight, .arr d .tight])[h.length + 1]? = some (.arr d .tight) := by simp
 obtain ⟨cv, tv, hc0, sc, st⟩ := rx
 obtain ⟨dv, uv, hd0, sd, su⟩ := ry
 have c0 : c[0]? = some (.int .i64 x.locks) := by subst hc0; rfl
 have c1 : c[1]? = some cv := by subst hc0; rfl
 have c2 : c[2]? = some tv := by subst hc0; rfl
 have d0 : d[0]? = some (.int .i64 y.locks) := by subst hd0; rfl
 have d1 : d[1]? = some dv := by subst hd0; rfl
 have d2 : d[2]? = some uv := by subst hd0; rfl
 have hca : ∀ l, (CV.agg l).cells = l := fun _ => rfl
 have sc := sc.on kap
 have st := st.on kap
 have sd := sd.on kap
 have su := su.on kap
 generalize hH : h ++ [Obj.arr c .tight, .arr d .tight] = H at *
 have lC := ld gC
 have lD := ld gD
 have nc := sc.len (by decide)
 have nt := st.len (by decide)
 have nd := sd.len (by decide)
 have nu := su.len (by decide)
 have hcb := hx.c
 have htb := hx.t
 simp only [big] at hcb htb
 simp [hca, hH]
 by_cases e1 : x.locks = y.locks
 ·by_cases e2 : x.chans.length = y.chans.length
  ·by_cases e3 : x.tasks.length = y.tasks.length
   ·have e2' : (x.chans.length : Int) = y.chans.length := by omega
    have e3' : (x.tasks.length : Int) = y.tasks.length := by omega
    simp [lC, lD, c0, c1, c2, d0, d1, d2, nc, nt, nd, nu, e1, e2, e3, e2', e3']
    refine W_loop (SsA h.length x y H) ?_ x.chans.length ⟨0, by omega, by omega, rfl, Keep.refl _ _, rfl⟩
    rintro m e H1 ⟨i, hi, rfl, rfl, k1, hta⟩
    have lC := ld (k1.at gC id)
    have lD := ld (k1.at gD id)
    have nc := (sc.on k1).len (by decide)
    have nt := (st.on k1).len (by decide)
    by_cases hie : i = x.chans.length
    ·have hch : x.chans = y.chans := eqDone (by rw [← hie]; exact hta) e2
     subst hie
     simp [lC, c1, nc]
     refine W_loop (SsB h.length x y H) ?_ x.tasks.length ⟨0, by omega, by omega, rfl, k1, rfl⟩
     rintro m e H2 ⟨j, hj, rfl, rfl, k2, htj⟩
     have gC2 := k2.at gC id
     have gD2 := k2.at gD id
     have lC := ld gC2
     have lD := ld gD2
     have nt := (st.on k2).len (by decide)
     by_cases hje : j = x.tasks.length
     ·have htk : x.tasks = y.tasks := eqDone (by rw [← hje]; exact htj) e3
      have hxy : x = y := (SetV.eq_iff x y).2 ⟨e1, hch, htk⟩
      subst hje
      simp [lC, c2, nt, hxy]
      exact kap.trans k2
     ·have hlt : j < x.tasks.length := by omega
      have hlt' : (j : Int) < x.tasks.length := by omega
      have hlu : j < y.tasks.length := by omega
      obtain ⟨b0, o0, pv, x1, x2, x3, sp⟩ := taskRow (st.on k2) hlt
      have kA := Keep.app NoneOf H2 [.arr (tkL x.tasks[j] pv) .tight]
      obtain ⟨b1, o1, qv, y1, y2, y3, sq⟩ := taskRow ((su.on k2).on kA) hlu
      have kB := Keep.app NoneOf H2 [.arr (tkL x.tasks[j] pv) .tight, .arr (tkL y.tasks[j] qv) .tight]
      have stA := store_new (h := H2) (row := tkL x.tasks[j] pv) (z := [.str [], .int .i64 0, .int .i64 0, .int .i64 0, .nils]) rfl (tkL_flat sp.scalar)
      have stB := store_new2 (h := H2) (o := .arr (tkL x.tasks[j] pv) .tight) (row := tkL y.tasks[j] qv) (z := [.str [], .int .i64 0, .int .i64 0, .int .i64 0, .nils]) rfl (tkL_flat sq.scalar)
      have gX : (H2 ++ [Obj.arr (tkL x.tasks[j] pv) .tight, .arr (tkL y.tasks[j] qv) .tight])[H2.length]? = some (.arr (tkL x.tasks[j] pv) .tight) := by simp
      have gY : (H2 ++ [Obj.arr (tkL x.tasks[j] pv) .tight, .arr (tkL y.tasks[j] qv) .tight])[H2.length + 1]? = some (.arr (tkL y.tasks[j] qv) .tight) := by simp
      have lX := ld gX
      have lY := ld gY
      have lDA := ld (kA.at gD2 id)
      have tx0 : (tkL x.tasks[j] pv)[0]? = some (.str x.tasks[j].name) := rfl
      have tx1 : (tkL x.tasks[j] pv)[1]? = some (.int .i64 x.tasks[j].per) := rfl
      have tx2 : (tkL x.tasks[j] pv)[2]? = some (.int .i64 x.tasks[j].dl) := rfl
      have tx3 : (tkL x.tasks[j] pv)[3]? = some (.int .i64 x.tasks[j].bud) := rfl
      have tx4 : (tkL x.tasks[j] pv)[4]? = some pv := rfl
      have ty0 : (tkL y.tasks[j] qv)[0]? = some (.str y.tasks[j].name) := rfl
      have ty1 : (tkL y.tasks[j] qv)[1]? = some (.int .i64 y.tasks[j].per) := rfl
      have ty2 : (tkL y.tasks[j] qv)[2]? = some (.int .i64 y.tasks[j].dl) := rfl
      have ty3 : (tkL y.tasks[j] qv)[3]? = some (.int .i64 y.tasks[j].bud) := rfl
      have ty4 : (tkL y.tasks[j] qv)[4]? = some qv := rfl
      have hw : IntKind.i64.wrap ((j : Int) + 1) = ((j + 1 : Nat) : Int) := by rw [w64 (by omega) (by omega)]; omega
      have ff1 : fits (some 5) (.agg (tkL x.tasks[j] pv)) = true := rfl
      have ff2 : fits (some 5) (.agg (tkL y.tasks[j] qv)) = true := rfl
      have hno : x.tasks[j] ≠ y.tasks[j] → ¬ x = y := fun h e => h (by subst e; rfl)
      have hpx := hx.p x.tasks[j] (List.getElem_mem hlt)
      have spB := (sp.on kB)
      have sqB := (sq.on (app2 H2 (.arr (tkL x.tasks[j] pv) .tight) (.arr (tkL y.tasks[j] qv) .tight)))
      have hes : x.tasks[j] = y.tasks[j] → x.tasks.take (j + 1) = y.tasks.take (j + 1) := fun h => eqStep htj hlt hlu h
      generalize x.tasks[j] = a at *
      generalize y.tasks[j] = b at *
      have kf : Keep NoneOf h (H2 ++ [.arr (tkL a pv) .tight, .arr (tkL b qv) .tight]) := (kap.trans k2).trans kB
      simp [lC, c2, nt, hlt', x1, x2, stA, ff1, lDA, d2, y1, y2, stB, ff2, lX, lY, tx0, ty0]
      by_cases n1 : a.name = b.name
      ·by_cases n2 : a.per = b.per
       ·by_cases n3 : a.dl = b.dl
        ·by_cases n4 : a.bud = b.bud
         ·simp [n1, n2, n3, n4, lX, lY, tx0, tx1, tx2, tx3, tx4, ty0, ty1, ty2, ty3, ty4]
          refine (refSameProg_spec lp.pg (lp.no ⟨rfl, rfl⟩) (lp.no ⟨rfl, rfl⟩) spB sqB hpx.1 fun o ho => by have := hpx.2.1 o ho; simp [big]; omega).mono ?_
          rintro r h3 ⟨rfl, k3⟩
          by_cases n5 : a.prog = b.prog
          ·have hab : a = b := by cases a; cases b; simp_all
           simp [n5, hw]
           exact ⟨x.tasks.length - (j + 1), by omega, j + 1, by omega, rfl, rfl, (k2.trans kB).trans k3, hes hab⟩
          ·have hne := hno fun h => n5 (by rw [h])
           simp [n5, hne]
           exact kf.trans k3
         ·have hne := hno fun h => n4 (by rw [h])
          simp [n1, n2, n3, n4, lX, lY, tx0, tx1, tx2, tx3, tx4, ty0, ty1, ty2, ty3, ty4, hne]
          exact kf
        ·have hne := hno fun h => n3 (by rw [h])
         simp [n1, n2, n3, lX, lY, tx0, tx1, tx2, tx3, tx4, ty0, ty1, ty2, ty3, ty4, hne]
         exact kf
       ·have hne := hno fun h => n2 (by rw [h])
        simp [n1, n2, lX, lY, tx0, tx1, tx2, tx3, tx4, ty0, ty1, ty2, ty3, ty4, hne]
        exact kf
      ·have hne := hno fun h => n1 (by rw [h])
       simp [n1, lX, lY, tx0, tx1, tx2, tx3, tx4, ty0, ty1, ty2, ty3, ty4, hne]
       exact kf
    ·have hlt : i < x.chans.length := by omega
     have hlt' : (i : Int) < x.chans.length := by omega
     have hlu : i < y.chans.length := by omega
     obtain ⟨b0, o0, row0, x1, x2, x3, x4⟩ := (sc.on k1).row (k := .i64) (by decide) hlt
     obtain ⟨b1, o1, row1, y1, y2, y3, y4⟩ := (sd.on k1).row (k := .i64) (by decide) hlu
     have x4 : row0 = chL x.chans[i] := x4
     have y4 : row1 = chL y.chans[i] := y4
     subst x4; subst y4
     simp only [chanC] at x1 x2 y1 y2
     have hw : IntKind.i64.wrap ((i : Int) + 1) = ((i + 1 : Nat) : Int) := by rw [w64 (by omega) (by omega)]; omega
     by_cases he : x.chans[i] = y.chans[i]
     ·simp [lC, lD, c1, d1, nc, hlt', x1, x2, y1, y2, he, eqChan, hw]
      exact ⟨x.chans.length - (i + 1), by omega, i + 1, by omega, rfl, rfl, k1, eqStep hta hlt hlu he⟩
     ·have hne : ¬ x = y := fun e => he (by subst e; rfl)
      simp [lC, lD, c1, d1, nc, hlt', x1, x2, y1, y2, he, eqChan, hne]
      exact kap.trans k1
   ·have e2' : (x.chans.length : Int) = y.chans.length := by omega
    have e3' : ¬ (x.tasks.length : Int) = y.tasks.length := by omega
    have hne : ¬ x = y := fun h => e3 (by rw [h])
    simp [lC, lD, c0, c1, c2, d0, d1, d2, nc, nt, nd, nu, e1, e2, e3, e2', e3', hne]
    exact kap
  ·have e2' : ¬ (x.chans.length : Int) = y.chans.length := by omega
   have hne : ¬ x = y := fun h => e2 (by rw [h])
   simp [lC, lD, c0, c1, c2, d0, d1, d2, nc, nt, nd, nu, e1, e2, e2', hne]
   exact kap
 ·have hne : ¬ x = y := fun h => e1 (by rw [h])
  simp [lC, lD, c0, c1, c2, d0, d1, d2, nc, nt, nd, nu, e1, hne]
  exact kap
end Go.Cl
