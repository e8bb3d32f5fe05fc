/-
  Texts laid together: ATextF ATextS ATextG ATextH ATextI.
-/
import Derived.Test.YtdbakplieenefaaGreatDoorMD
import Derived.Test.YtdbakplieenefaaGreatDoorMA
import Derived.Test.YtdbakplieenefaaGreatDoorMC
namespace Go.Cl
open Go
set_option linter.unusedSimpArgs false
set_option linter.unusedVariables false
set_option maxHeartbeats 2000000
variable {p : PP}
theorem app2 (H : Heap) (a b : Obj) : Keep NoneOf (H ++ [a]) (H ++ [a, b]) := by
 rw [show H ++ [a, b] = (H ++ [a]) ++ [b] by simp]; exact Keep.app _ _ _
theorem SetV.eq_iff (a b : SetV) : a = b ↔ a.locks = b.locks ∧ a.chans = b.chans ∧ a.tasks = b.tasks := by
 cases a; cases b; simp
theorem eqChan (a b : ChanV) : eqv (.st [.i, .i]) (.agg (chL a)) (.agg (chL b)) = some (decide (a = b)) := by
 cases a; cases b
 simp only [eqv, chL, List.length_cons, List.length_nil, and_self, if_true, eqCells, eqKind, ChanV.mk.injEq]
 rename_i a1 a2 b1 b2
 cases hA : (a1 == b1) <;> cases hB : (a2 == b2) <;> simp_all
def SsA (b0 : Nat) (x y : SetV) (h : Heap) (m : Nat) (e : Env) (h' : Heap) : Prop :=
 ∃ i : Nat, i ≤ x.chans.length ∧ m = x.chans.length - i ∧ e = [(2, .ptr b0 0), (3, .ptr (b0 + 1) 0), (5, .int .i64 i)] ∧ Keep NoneOf h h' ∧ x.chans.take i = y.chans.take i
def SsB (b0 : Nat) (x y : SetV) (h : Heap) (m : Nat) (e : Env) (h' : Heap) : Prop :=
 ∃ i : Nat, i ≤ x.tasks.length ∧ m = x.tasks.length - i ∧ e = [(2, .ptr b0 0), (3, .ptr (b0 + 1) 0), (6, .int .i64 i)] ∧ Keep NoneOf h h' ∧ x.tasks.take i = y.tasks.take i
theorem sameSet_spec (lp : LP p) {h : Heap} {P Q : Nat → Prop} {x y : SetV} {c d : List CV} (rx : setC.rep h P c x) (ry : setC.rep h Q d y) (hx : x.Sane) :
  WF p 253 [.agg c, .agg d] h fun r h' => r = .bool (decide (x = y)) ∧ Keep NoneOf h h' := by
 refine WF_of (by rw [lp.pg]; exact S.pg253) (lp.no ⟨rfl, rfl⟩) ?_
 show W p S.b253 _ _ (retQ [.t 4] _)
 unfold S.b253
 have kap := Keep.app NoneOf h [.arr c .tight, .arr d .tight]
 have gC : (h ++ [Obj.arr c .tight, .arr d .tight])[h.length]? = some (.arr c .tight) := by simp
 have gD : (h ++ [Obj.arr c .tight, .arr d .tight])[h.length + 1]? = some (.arr d .tight) := by simp
 obtain ⟨cv, tv, hc0, sc, st⟩ := rx
 obtain ⟨dv, uv, hd0, sd, su⟩ := ry
 have c0 : c[0]? = some (.int .i64 x.locks) := by subst hc0; rfl
 have c1 : c[1]? = some cv := by subst hc0; rfl
 have c2 : c[2]? = some tv := by subst hc0; rfl
 have d0 : d[0]? = some (.int .i64 y.locks) := by subst hd0; rfl
 have d1 : d[1]? = some dv := by subst hd0; rfl
 have d2 : d[2]? = some uv := by subst hd0; rfl
 have hca : ∀ l, (CV.agg l).cells = l := fun _ => rfl
 have sc := sc.on kap
 have st := st.on kap
 have sd := sd.on kap
 have su := su.on kap
 generalize hH : h ++ [Obj.arr c .tight, .arr d .tight] = H at *
 have lC := ld gC
 have lD := ld gD
 have nc := sc.len (by decide)
 have nt := st.len (by decide)
 have nd := sd.len (by decide)
 have nu := su.len (by decide)
 have hcb := hx.c
 have htb := hx.t
 simp only [big] at hcb htb
 simp [hca, hH]
 by_cases e1 : x.locks = y.locks
 ·by_cases e2 : x.chans.length = y.chans.length
  ·by_cases e3 : x.tasks.length = y.tasks.length
   ·have e2' : (x.chans.length : Int) = y.chans.length := by omega
    have e3' : (x.tasks.length : Int) = y.tasks.length := by omega
    simp [lC, lD, c0, c1, c2, d0, d1, d2, nc, nt, nd, nu, e1, e2, e3, e2', e3']
    refine W_loop (SsA h.length x y H) ?_ x.chans.length ⟨0, by omega, by omega, rfl, Keep.refl _ _, rfl⟩
    rintro m e H1 ⟨i, hi, rfl, rfl, k1, hta⟩
    have lC := ld (k1.at gC id)
    have lD := ld (k1.at gD id)
    have nc := (sc.on k1).len (by decide)
    have nt := (st.on k1).len (by decide)
    by_cases hie : i = x.chans.length
    ·have hch : x.chans = y.chans := eqDone (by rw [← hie]; exact hta) e2
     subst hie
     simp [lC, c1, nc]
     refine W_loop (SsB h.length x y H) ?_ x.tasks.length ⟨0, by omega, by omega, rfl, k1, rfl⟩
     rintro m e H2 ⟨j, hj, rfl, rfl, k2, htj⟩
     have gC2 := k2.at gC id
     have gD2 := k2.at gD id
     have lC := ld gC2
     have lD := ld gD2
     have nt := (st.on k2).len (by decide)
     by_cases hje : j = x.tasks.length
     ·have htk : x.tasks = y.tasks := eqDone (by rw [← hje]; exact htj) e3
      have hxy : x = y := (SetV.eq_iff x y).2 ⟨e1, hch, htk⟩
      subst hje
      simp [lC, c2, nt, hxy]
      exact kap.trans k2
     ·have hlt : j < x.tasks.length := by omega
      have hlt' : (j : Int) < x.tasks.length := by omega
      have hlu : j < y.tasks.length := by omega
      obtain ⟨b0, o0, pv, x1, x2, x3, sp⟩ := taskRow (st.on k2) hlt
      have kA := Keep.app NoneOf H2 [.arr (tkL x.tasks[j] pv) .tight]
      obtain ⟨b1, o1, qv, y1, y2, y3, sq⟩ := taskRow ((su.on k2).on kA) hlu
      have kB := Keep.app NoneOf H2 [.arr (tkL x.tasks[j] pv) .tight, .arr (tkL y.tasks[j] qv) .tight]
      have stA := store_new (h := H2) (row := tkL x.tasks[j] pv) (z := [.str [], .int .i64 0, .int .i64 0, .int .i64 0, .nils]) rfl (tkL_flat sp.scalar)
      have stB := store_new2 (h := H2) (o := .arr (tkL x.tasks[j] pv) .tight) (row := tkL y.tasks[j] qv) (z := [.str [], .int .i64 0, .int .i64 0, .int .i64 0, .nils]) rfl (tkL_flat sq.scalar)
      have gX : (H2 ++ [Obj.arr (tkL x.tasks[j] pv) .tight, .arr (tkL y.tasks[j] qv) .tight])[H2.length]? = some (.arr (tkL x.tasks[j] pv) .tight) := by simp
      have gY : (H2 ++ [Obj.arr (tkL x.tasks[j] pv) .tight, .arr (tkL y.tasks[j] qv) .tight])[H2.length + 1]? = some (.arr (tkL y.tasks[j] qv) .tight) := by simp
      have lX := ld gX
      have lY := ld gY
      have lDA := ld (kA.at gD2 id)
      have tx0 : (tkL x.tasks[j] pv)[0]? = some (.str x.tasks[j].name) := rfl
      have tx1 : (tkL x.tasks[j] pv)[1]? = some (.int .i64 x.tasks[j].per) := rfl
      have tx2 : (tkL x.tasks[j] pv)[2]? = some (.int .i64 x.tasks[j].dl) := rfl
      have tx3 : (tkL x.tasks[j] pv)[3]? = some (.int .i64 x.tasks[j].bud) := rfl
      have tx4 : (tkL x.tasks[j] pv)[4]? = some pv := rfl
      have ty0 : (tkL y.tasks[j] qv)[0]? = some (.str y.tasks[j].name) := rfl
      have ty1 : (tkL y.tasks[j] qv)[1]? = some (.int .i64 y.tasks[j].per) := rfl
      have ty2 : (tkL y.tasks[j] qv)[2]? = some (.int .i64 y.tasks[j].dl) := rfl
      have ty3 : (tkL y.tasks[j] qv)[3]? = some (.int .i64 y.tasks[j].bud) := rfl
      have ty4 : (tkL y.tasks[j] qv)[4]? = some qv := rfl
      have hw : IntKind.i64.wrap ((j : Int) + 1) = ((j + 1 : Nat) : Int) := by rw [w64 (by omega) (by omega)]; omega
      have ff1 : fits (some 5) (.agg (tkL x.tasks[j] pv)) = true := rfl
      have ff2 : fits (some 5) (.agg (tkL y.tasks[j] qv)) = true := rfl
      have hno : x.tasks[j] ≠ y.tasks[j] → ¬ x = y := fun h e => h (by subst e; rfl)
      have hpx := hx.p x.tasks[j] (List.getElem_mem hlt)
      have spB := (sp.on kB)
      have sqB := (sq.on (app2 H2 (.arr (tkL x.tasks[j] pv) .tight) (.arr (tkL y.tasks[j] qv) .tight)))
      have hes : x.tasks[j] = y.tasks[j] → x.tasks.take (j + 1) = y.tasks.take (j + 1) := fun h => eqStep htj hlt hlu h
      generalize x.tasks[j] = a at *
      generalize y.tasks[j] = b at *
      have kf : Keep NoneOf h (H2 ++ [.arr (tkL a pv) .tight, .arr (tkL b qv) .tight]) := (kap.trans k2).trans kB
      simp [lC, c2, nt, hlt', x1, x2, stA, ff1, lDA, d2, y1, y2, stB, ff2, lX, lY, tx0, ty0]
      by_cases n1 : a.name = b.name
      ·by_cases n2 : a.per = b.per
       ·by_cases n3 : a.dl = b.dl
        ·by_cases n4 : a.bud = b.bud
         ·simp [n1, n2, n3, n4, lX, lY, tx0, tx1, tx2, tx3, tx4, ty0, ty1, ty2, ty3, ty4]
          refine (refSameProg_spec lp.pg (lp.no ⟨rfl, rfl⟩) (lp.no ⟨rfl, rfl⟩) spB sqB hpx.1 fun o ho => by have := hpx.2.1 o ho; simp [big]; omega).mono ?_
          rintro r h3 ⟨rfl, k3⟩
          by_cases n5 : a.prog = b.prog
          ·have hab : a = b := by cases a; cases b; simp_all
           simp [n5, hw]
           exact ⟨x.tasks.length - (j + 1), by omega, j + 1, by omega, rfl, rfl, (k2.trans kB).trans k3, hes hab⟩
          ·have hne := hno fun h => n5 (by rw [h])
           simp [n5, hne]
           exact kf.trans k3
         ·have hne := hno fun h => n4 (by rw [h])
          simp [n1, n2, n3, n4, lX, lY, tx0, tx1, tx2, tx3, tx4, ty0, ty1, ty2, ty3, ty4, hne]
          exact kf
        ·have hne := hno fun h => n3 (by rw [h])
         simp [n1, n2, n3, lX, lY, tx0, tx1, tx2, tx3, tx4, ty0, ty1, ty2, ty3, ty4, hne]
         exact kf
       ·have hne := hno fun h => n2 (by rw [h])
        simp [n1, n2, lX, lY, tx0, tx1, tx2, tx3, tx4, ty0, ty1, ty2, ty3, ty4, hne]
        exact kf
      ·have hne := hno fun h => n1 (by rw [h])
       simp [n1, lX, lY, tx0, tx1, tx2, tx3, tx4, ty0, ty1, ty2, ty3, ty4, hne]
       exact kf
    ·have hlt : i < x.chans.length := by omega
     have hlt' : (i : Int) < x.chans.length := by omega
     have hlu : i < y.chans.length := by omega
     obtain ⟨b0, o0, row0, x1, x2, x3, x4⟩ := (sc.on k1).row (k := .i64) (by decide) hlt
     obtain ⟨b1, o1, row1, y1, y2, y3, y4⟩ := (sd.on k1).row (k := .i64) (by decide) hlu
     have x4 : row0 = chL x.chans[i] := x4
     have y4 : row1 = chL y.chans[i] := y4
     subst x4; subst y4
     simp only [chanC] at x1 x2 y1 y2
     have hw : IntKind.i64.wrap ((i : Int) + 1) = ((i + 1 : Nat) : Int) := by rw [w64 (by omega) (by omega)]; omega
     by_cases he : x.chans[i] = y.chans[i]
     ·simp [lC, lD, c1, d1, nc, hlt', x1, x2, y1, y2, he, eqChan, hw]
      exact ⟨x.chans.length - (i + 1), by omega, i + 1, by omega, rfl, rfl, k1, eqStep hta hlt hlu he⟩
     ·have hne : ¬ x = y := fun e => he (by subst e; rfl)
      simp [lC, lD, c1, d1, nc, hlt', x1, x2, y1, y2, he, eqChan, hne]
      exact kap.trans k1
   ·have e2' : (x.chans.length : Int) = y.chans.length := by omega
    have e3' : ¬ (x.tasks.length : Int) = y.tasks.length := by omega
    have hne : ¬ x = y := fun h => e3 (by rw [h])
    simp [lC, lD, c0, c1, c2, d0, d1, d2, nc, nt, nd, nu, e1, e2, e3, e2', e3', hne]
    exact kap
  ·have e2' : ¬ (x.chans.length : Int) = y.chans.length := by omega
   have hne : ¬ x = y := fun h => e2 (by rw [h])
   simp [lC, lD, c0, c1, c2, d0, d1, d2, nc, nt, nd, nu, e1, e2, e2', hne]
   exact kap
 ·have hne : ¬ x = y := fun h => e1 (by rw [h])
  simp [lC, lD, c0, c1, c2, d0, d1, d2, nc, nt, nd, nu, e1, hne]
  exact kap
end Go.Cl
