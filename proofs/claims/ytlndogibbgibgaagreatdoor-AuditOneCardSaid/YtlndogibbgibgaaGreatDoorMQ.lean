/-
  Texts laid together: AXH AXI.
-/
import Derived.Test.YtlndogibbgibgaaGreatDoorMP
namespace Go.Cl
open Go
set_option linter.unusedSimpArgs false
set_option linter.unusedVariables false
set_option maxHeartbeats 1000000
variable {p : PP} {K : CoreW} {cells : List CV} {X : SetV} {s : CoreX} {Q : Nat → Prop} {h h' : Heap}
def LnI (b : Nat) (lpv : CV) (n : Nat) (h : Heap) (m : Nat) (e : Env) (h' : Heap) : Prop :=
 ∃ i : Nat, i ≤ n ∧ m = n - i ∧ e = [(0, .ptr b 0), (3, .nils), (16, lpv), (17, .int .i64 n), (18, .int .i64 i)] ∧ h' = h
theorem CoreV.lockAt (c : CoreV K cells X s Q h) {i : Nat} (hi : i < K.lb.length) : ∃ b o b0 o0, K.lb[i]? = some b ∧ s.own[i]? = some o ∧ idxAddrV 1 K.lpv (.int .i64 (i : Int)) = some (.ptr b0 o0) ∧ loadAt h b0 o0 none = some (.ptr b 0) ∧ h[b]? = some (.arr [.int .i64 o, .nils] .tight) := by
 obtain ⟨b0, o0, row, x1, x2, x3, hr⟩ := c.ls.row (k := .i64) (by decide) hi
 have hr : row = [.ptr K.lb[i] 0] := hr
 have y := x3 0 (by decide)
 rw [hr] at y
 have hoi : i < s.own.length := by have := c.ll; omega
 exact ⟨K.lb[i], s.own[i], b0, o0, List.getElem?_eq_getElem hi, List.getElem?_eq_getElem hoi, x1, y, c.lo i _ _ (List.getElem?_eq_getElem hi) (List.getElem?_eq_getElem hoi)⟩
theorem lendsX (lp : LP p) (c : CoreV K cells X s Q h) (h8 : K.lb.length ≤ 1000) : WF p 331 [.ptr K.b 0] h fun r h' => r = .nils ∧ h' = h := by
 refine WF_of (by rw [lp.pg]; exact S.pg331) (lp.no ⟨rfl, rfl⟩) ?_
 show W p S.b331 _ _ (retQ [.t 2] _)
 unfold S.b331
 have lC := ld c.g
 have nL := c.ls.len (by decide)
 simp [lC, nL]
 refine W_loop (LnI K.b K.lpv K.lb.length h) ?_ K.lb.length ⟨0, by omega, by omega, rfl, rfl⟩
 rintro m e h2 ⟨i, hi, rfl, rfl, rfl⟩
 by_cases hie : i = K.lb.length
 ·subst hie
  simp [lC]
  refine W_loop (fun m e h3 => m = 0 ∧ e = [(0, .ptr K.b 0), (3, .nils), (42, .nils), (43, .int .i64 0), (44, .int .i64 0)] ∧ h3 = h2) ?_ 0 ⟨rfl, rfl, rfl⟩
  rintro m e h3 ⟨rfl, rfl, rfl⟩
  simp
 ·have hlt : i < K.lb.length := by omega
  have hlt' : (i : Int) < K.lb.length := by omega
  have hw : IntKind.i64.wrap ((i : Int) + 1) = ((i + 1 : Nat) : Int) := by rw [w64 (by omega) (by omega)]; omega
  obtain ⟨b, o, b0, o0, z1, z2, z3, z4, z5⟩ := c.lockAt hlt
  have lB := ld z5
  simp [hlt, hlt', z3, z4]
  refine WF_of (by rw [lp.pg]; exact S.pg354) (lp.no ⟨rfl, rfl⟩) ?_
  show W p S.b354 _ _ (retQ [.t 2] _)
  unfold S.b354
  simp [lB]
  refine WF_of (by rw [lp.pg]; exact S.pg356) (lp.no ⟨rfl, rfl⟩) ?_
  show W p S.b356 _ _ (retQ [.t 2] _)
  unfold S.b356
  simp [eqv]
  refine W_loop (fun m e h3 => m = 0 ∧ e = [(0, .ptr K.b 0), (3, .nils), (5, .ptr b 0), (16, K.lpv), (17, .int .i64 K.lb.length), (18, .int .i64 i), (23, .nils), (24, .int .i64 0), (25, .int .i64 0)] ∧ h3 = h2) ?_ 0 ⟨rfl, rfl, rfl⟩
  rintro m e h3 ⟨rfl, rfl, rfl⟩
  simp [hw]
  exact ⟨K.lb.length - (i + 1), by omega, i + 1, by omega, rfl, rfl, rfl⟩
def heldMax (cs : List Int) (held : List Int) (o : Int) : Int := held.foldl (fun m l => max m (cs.getD l.toNat 0)) o
def baseX (X : SetV) (jobs : List JobV) : List Int := jobs.mapIdx fun j z => if z.live = true then (priosP X.tasks).getD j 0 else 0
def leastX (X : SetV) (jobs : List JobV) : List Int := jobs.map fun z => if z.live = true then heldMax (ceilsP X) z.held 0 else 0
def priosL (X : SetV) (jobs : List JobV) : List Int := lift (baseX X jobs) (leastX X jobs)
@[simp] theorem baseX_length {jobs : List JobV} : (baseX X jobs).length = jobs.length := by simp [baseX]
@[simp] theorem leastX_length {jobs : List JobV} : (leastX X jobs).length = jobs.length := by simp [leastX]
@[simp] theorem priosL_length {jobs : List JobV} : (priosL X jobs).length = jobs.length := by simp [priosL]
theorem baseX_get {jobs : List JobV} {j : Nat} {z : JobV} (hj : jobs[j]? = some z) : (baseX X jobs)[j]? = some (if z.live = true then (priosP X.tasks).getD j 0 else 0) := by simp [baseX, hj]
theorem leastX_get {jobs : List JobV} {j : Nat} {z : JobV} (hj : jobs[j]? = some z) : (leastX X jobs)[j]? = some (if z.live = true then heldMax (ceilsP X) z.held 0 else 0) := by simp [leastX, hj]
def HeldOk (X : SetV) (jobs : List JobV) : Prop := ∀ z ∈ jobs, z.held.length ≤ 1000 ∧ ∀ l ∈ z.held, 0 ≤ l ∧ l < X.locks
def PxI (b jb N n : Nat) (X : SetV) (jobs : List JobV) (h : Heap) (m : Nat) (e : Env) (h' : Heap) : Prop :=
 ∃ (i : Nat) (L M : List Int), i ≤ n ∧ m = n - i ∧ e = [(0, .ptr b 0), (3, .sl N 0 n n), (4, .sl (N + 1) 0 n n), (24, .sl jb 0 n n), (25, .int .i64 n), (26, .int .i64 i)] ∧ Keep NoneOf h h' ∧
  h'[N]? = some (.arr (ints .i64 L) .tight) ∧ h'[N + 1]? = some (.arr (ints .i64 M) .tight) ∧ L.length = n ∧ M.length = n ∧ ∀ j, j < n → L[j]? = (if j < i then (baseX X jobs)[j]? else some 0) ∧ M[j]? = (if j < i then (leastX X jobs)[j]? else some 0)
def HxI (b jb N n i : Nat) (X : SetV) (hv : CV) (held : List Int) (M : List Int) (H : Heap) (m : Nat) (e : Env) (h' : Heap) : Prop :=
 ∃ (q : Nat) (o : Int), q ≤ held.length ∧ m = held.length - q ∧ e = [(0, .ptr b 0), (3, .sl N 0 n n), (4, .sl (N + 1) 0 n n), (5, .int .i64 i), (24, .sl jb 0 n n), (25, .int .i64 n), (26, .int .i64 i), (45, hv), (46, .int .i64 held.length), (47, .int .i64 q)] ∧
  Keep (fun y => y = N + 1) H h' ∧ h'[N + 1]? = some (.arr (ints .i64 (M.set i o)) .tight) ∧ heldMax (ceilsP X) (held.drop q) o = heldMax (ceilsP X) held 0
theorem priosX (lp : LP p) (c : CoreV K cells X s Q h) (hn : X.tasks.length ≤ 12) (h8 : K.lb.length ≤ 1000) (hh : HeldOk X s.jobs) :
  WF p 308 [.ptr K.b 0] h fun r h' => Own h' r (ints .i64 (priosL X s.jobs)) ∧ Keep NoneOf h h' ∧ ∀ b, r.blk = some b → h.length ≤ b := by
 refine WF_of (by rw [lp.pg]; exact S.pg308) (lp.no ⟨rfl, rfl⟩) ?_
 show W p S.b308 _ _ (retQ [.t 2] _)
 unfold S.b308
 have lC := ld c.g
 have kap := Keep.app NoneOf h [.arr (List.replicate X.tasks.length (.int .i64 0)) .tight]
 have kap2 := Keep.app NoneOf h [.arr (List.replicate X.tasks.length (.int .i64 0)) .tight, .arr (List.replicate X.tasks.length (.int .i64 0)) .tight]
 have lC1 := ld (c.on kap).g
 have lC2 := ld (c.on kap2).g
 have hbg : X.tasks.length ≤ big := by simp [big]; omega
 simp [lC, hbg, lC1, lC2]
 refine W_loop (PxI K.b K.jb h.length X.tasks.length X s.jobs h) ?_ X.tasks.length ⟨0, List.replicate X.tasks.length 0, List.replicate X.tasks.length 0, by omega, by omega, rfl, kap2, by simp [ints], by simp [ints], by simp, by simp, fun j hj => by simp [hj]⟩
 rintro m e h1 ⟨i, L, M, hi, rfl, rfl, k1, gb, gl, hL, hM, hLM⟩
 have c1 := c.on k1
 have lC1 := ld c1.g
 have kl1 := k1.len
 by_cases hie : i = X.tasks.length
 ·subst hie
  have hLe : L = baseX X s.jobs := by
   apply List.ext_getElem?
   intro j
   by_cases hj : j < X.tasks.length
   ·rw [(hLM j hj).1, if_pos hj]
   ·rw [List.getElem?_eq_none (by omega), List.getElem?_eq_none (by have := c.jl; simp; omega)]
  have hMe : M = leastX X s.jobs := by
   apply List.ext_getElem?
   intro j
   by_cases hj : j < X.tasks.length
   ·rw [(hLM j hj).2, if_pos hj]
   ·rw [List.getElem?_eq_none (by omega), List.getElem?_eq_none (by have := c.jl; simp; omega)]
  subst hLe hMe
  simp
  refine (lendsX lp c1 h8).mono ?_
  rintro r h2 ⟨rfl, rfl⟩
  try simp
  have r0 : Read h2 1 (.sl h.length 0 X.tasks.length X.tasks.length) (ints .i64 (baseX X s.jobs)) := (Mine.read (.inr ⟨_, X.tasks.length, .tight, rfl, by rw [ints_length, hL, Nat.mul_one], .inl rfl, gb⟩))
  have r1 : Read h2 1 (.sl (h.length + 1) 0 X.tasks.length X.tasks.length) (ints .i64 (leastX X s.jobs)) := (Mine.read (.inr ⟨_, X.tasks.length, .tight, rfl, by rw [ints_length, hM, Nat.mul_one], .inl rfl, gl⟩))
  refine (prios_spec (E := []) (by rw [lp.pg]; exact S.pg17) (lp.no ⟨rfl, rfl⟩) (by rw [lp.pg]; exact S.pg55) (lp.no ⟨rfl, rfl⟩) (by rw [lp.pg]; exact S.pg56) (lp.no ⟨rfl, rfl⟩) r0 r1 (.inl ⟨rfl, rfl⟩) (by rw [hL]; exact hbg) (by simp)).mono ?_
  rintro r h3 ⟨N, ow, ip, k3, hb3⟩
  obtain rfl := prios_none ip
  exact ⟨ow, k1.trans k3, fun b hb => by have := hb3 b hb; omega⟩
 ·have hlt : i < X.tasks.length := by omega
  have hlt' : (i : Int) < X.tasks.length := by omega
  obtain ⟨z, fv, hv, hx, e, s1, s2, hix, hc, hbd⟩ := c1.row hlt
  have hw : IntKind.i64.wrap ((i : Int) + 1) = ((i + 1 : Nat) : Int) := by rw [w64 (by omega) (by omega)]; omega
  have w10 : loadAt h1 K.jb (i * 10) (some 10) = some (.agg (jobCells z fv hv)) := by rw [ldn c1.jg, if_pos hbd, e]
  have jf := jobCells_flat (x := z) s1.scalar s2.scalar
  have sn := store_new (h := h1) (row := jobCells z fv hv) (z := [.bool false, .nils, .int .i64 0, .int .i64 0, .int .i64 0, .int .i64 0, .int .i64 0, .int .i64 0, .bool false, .nils]) rfl jf
  have kap3 := Keep.app NoneOf h1 [.arr (jobCells z fv hv) .tight]
  have j9 : (jobCells z fv hv)[9]? = some hv := rfl
  have jl : (jobCells z fv hv).length = 10 := rfl
  have bl := baseX_get (X := X) hx
  have ml := leastX_get (X := X) hx
  have c2 := c1.on kap3
  have lr : loadAt (h1 ++ [.arr (jobCells z fv hv) .tight]) h1.length 0 none = some (.bool z.live) := by rw [ld get_new]; rfl
  have hgb := lt_of_get gb
  have hgl := lt_of_get gl
  have lC2 := ld c2.g
  have gb2 := kap3.at gb id
  have gl2 := kap3.at gl id
  obtain ⟨hz1, hz2⟩ := hh z (List.mem_of_getElem? hx)
  have g6 := get_new (h := h1) (o := .arr (jobCells z fv hv) .tight)
  have s2' := s2.on kap3
  by_cases hlv : z.live = true
  ·have hjp : i < (priosP X.tasks).length := by simpa using hlt
   obtain ⟨b0, o0, x1, x2, x3⟩ := readI_idx (k' := .i64) c2.bs.ints (i := i) hjp
   have hgd : (priosP X.tasks)[i] = (priosP X.tasks).getD i 0 := by rw [List.getD, List.getElem?_eq_getElem hjp]; rfl
   rw [hgd] at x3
   rw [if_pos hlv] at bl ml
   generalize hpv : (priosP X.tasks).getD i 0 = pv at *
   have hib : idxAddrV 1 (.sl h.length 0 X.tasks.length X.tasks.length) (.int .i64 (i : Int)) = some (.ptr h.length i) := by
    rw [idxAddrV_sl, if_pos ⟨by omega, by omega⟩]; simp
   have sb := sto1 gb2 (o := i) (v := .int .i64 pv) (by simp [hL, hlt]) rfl
   have k4 : Keep (fun y => y = h.length) (h1 ++ [Obj.arr (jobCells z fv hv) .tight]) ((h1 ++ [Obj.arr (jobCells z fv hv) .tight]).set h.length (.arr ((ints .i64 L).set i (.int .i64 pv)) .tight)) := Keep.set _ _ rfl
   have g64 := k4.at g6 (by omega)
   have l6 := (ld g64 9).trans j9
   have gb4 := get_set_self (o := .arr ((ints .i64 L).set i (.int .i64 pv)) .tight) (lt_of_get gb2)
   have gl4 := k4.at gl2 (by omega)
   have hQ4 : ∀ y, Q y → y < h.length := fun y hy => (c.hQ y hy).1
   have s4 := s2'.keep k4 fun y hy e => by have := hQ4 y hy; omega
   have n4 := s4.len (by decide)
   have cs4 := (c2.cs).keep k4 fun y hy e => by have := hQ4 y hy; omega
   have gC4 := k4.at c2.g (by have := c.own_lt K.b (.inl rfl); omega)
   have lC4 := ld gC4
   have K4 : Keep NoneOf h ((h1 ++ [Obj.arr (jobCells z fv hv) .tight]).set h.length (.arr ((ints .i64 L).set i (.int .i64 pv)) .tight)) := (k1.trans kap3).then k4 fun y hy e => by omega
   simp [hlt, hlt', hix, w10, sn, jl, lr, hlv, lC2, x1, x3, hib, sb, l6, n4]
   generalize (h1 ++ [Obj.arr (jobCells z fv hv) .tight]).set h.length (.arr ((ints .i64 L).set i (.int .i64 pv)) .tight) = H4 at *
   have hset0 : M.set i 0 = M := by
    apply List.ext_getElem?
    intro j
    by_cases hji : j = i
    ·subst hji; rw [List.getElem?_set_self (by omega), (hLM j hlt).2, if_neg (by omega)]
    ·rw [List.getElem?_set_ne (by omega)]
   refine W_loop (HxI K.b K.jb h.length X.tasks.length i X hv z.held M H4) ?_ z.held.length ⟨0, 0, by omega, by omega, rfl, Keep.refl _ _, by rw [hset0]; exact gl4, by simp⟩
   rintro m e H5 ⟨q, o, hq, rfl, rfl, k5, g5, hgo⟩
   by_cases hqe : q = z.held.length
   ·rw [hqe, List.drop_length] at hgo
    have hgo' : o = heldMax (ceilsP X) z.held 0 := hgo
    simp [hqe, hw]
    refine ⟨X.tasks.length - (i + 1), by omega, i + 1, L.set i pv, M.set i o, by omega, rfl, rfl, K4.then k5 fun y hy e => by omega, ?_, g5, by simpa using hL, by simpa using hM, fun j hj => ?_⟩
    ·rw [k5.at gb4 (by omega)]; simp [ints, List.map_set]
    ·by_cases hji : j = i
     ·subst hji
      rw [List.getElem?_set_self (by omega), List.getElem?_set_self (by omega), if_pos (by omega), if_pos (by omega), bl, ml, hgo']
      exact ⟨rfl, rfl⟩
     ·rw [List.getElem?_set_ne (by omega), List.getElem?_set_ne (by omega), (hLM j hj).1, (hLM j hj).2]
      by_cases hlt2 : j < i
      ·rw [if_pos hlt2, if_pos (by omega), if_pos hlt2, if_pos (by omega)]; exact ⟨rfl, rfl⟩
      ·rw [if_neg hlt2, if_neg (by omega), if_neg hlt2, if_neg (by omega)]; exact ⟨rfl, rfl⟩
   ·have hql : q < z.held.length := by omega
    have hql' : (q : Int) < z.held.length := by omega
    have hwq : IntKind.i64.wrap ((q : Int) + 1) = ((q + 1 : Nat) : Int) := by rw [w64 (by omega) (by omega)]; omega
    have s5 := s4.keep k5 fun y hy e => by have := hQ4 y hy; omega
    have cs5 := cs4.keep k5 fun y hy e => by have := hQ4 y hy; omega
    have lC5 := ld (k5.at gC4 (by have := c.own_lt K.b (.inl rfl); omega))
    obtain ⟨b1, o1, y1, y2, y3⟩ := readI_idx (k' := .i64) s5.ints hql
    obtain ⟨lk, hlk⟩ : ∃ lk : Nat, z.held[q] = lk := ⟨z.held[q].toNat, by have := (hz2 _ (List.getElem_mem hql)).1; omega⟩
    have hlkb := hz2 _ (List.getElem_mem hql)
    rw [hlk] at y3 hlkb
    have hcl : lk < (ceilsP X).length := by simp [ceilsP]; omega
    obtain ⟨b2, o2, u1, u2, u3⟩ := readI_idx (k' := .i64) cs5.ints hcl
    have hil : idxAddrV 1 (.sl (h.length + 1) 0 X.tasks.length X.tasks.length) (.int .i64 (i : Int)) = some (.ptr (h.length + 1) i) := by
     rw [idxAddrV_sl, if_pos ⟨by omega, by omega⟩]; simp
    have L5 : loadAt H5 (h.length + 1) i none = some (.int .i64 o) := by
     rw [ld g5, ints_get, List.getElem?_set_self (by omega)]; rfl
    have hdr : heldMax (ceilsP X) (z.held.drop q) o = heldMax (ceilsP X) (z.held.drop (q + 1)) (max o (ceilsP X)[lk]) := by
     rw [List.drop_eq_getElem_cons hql]
     unfold heldMax
     rw [List.foldl_cons, hlk]
     simp [List.getD, hcl]
    rw [hdr] at hgo
    generalize (ceilsP X)[lk] = cv at *
    have hmx := mxL_two (a := o) (b := cv)
    have s6 := sto1 g5 (o := i) (v := .int .i64 (max o cv)) (by simp [ints]; omega) rfl
    have hset : (ints .i64 (M.set i o)).set i (.int .i64 (max o cv)) = ints .i64 (M.set i (max o cv)) := by simp [ints, List.map_set]
    rw [hset] at s6
    generalize max o cv = w at *
    simp [hql, hql', y1, y3, lC5, u1, u3, hil, L5, hmx, s6, hwq]
    exact ⟨z.held.length - (q + 1), by omega, q + 1, w, by omega, rfl, rfl, k5.trans (Keep.set _ _ rfl), get_set_self (lt_of_get g5), hgo⟩
  ·rw [if_neg hlv] at bl ml
   simp only [Bool.not_eq_true] at hlv
   simp [hlt, hlt', hix, w10, sn, jl, lr, hlv, hw]
   refine ⟨X.tasks.length - (i + 1), by omega, i + 1, L, M, by omega, rfl, rfl, k1.trans kap3, gb2, gl2, hL, hM, fun j hj => ?_⟩
   rw [(hLM j hj).1, (hLM j hj).2]
   by_cases hji : j = i
   ·subst hji
    rw [if_neg (by omega), if_pos (by omega), if_neg (by omega), if_pos (by omega), bl, ml]
    exact ⟨rfl, rfl⟩
   ·by_cases hlt2 : j < i
    ·rw [if_pos hlt2, if_pos (by omega), if_pos hlt2, if_pos (by omega)]; exact ⟨rfl, rfl⟩
    ·rw [if_neg hlt2, if_neg (by omega), if_neg hlt2, if_neg (by omega)]; exact ⟨rfl, rfl⟩
def seqAt (jobs : List JobV) (k : Nat) : Int := match jobs[k]? with
 | some z => z.seq
 | none => 0
def before (P : List Int) (jobs : List JobV) (k t : Nat) : Bool := decide (P.getD t 0 < P.getD k 0) || (decide (P.getD k 0 = P.getD t 0) && decide (seqAt jobs k < seqAt jobs t))
def topTX (P : List Int) (jobs : List JobV) : Nat → Option Nat
 | 0 => none
 | k + 1 => match jobs[k]? with
   | some z => if z.live = true ∧ z.waits = false then (match topTX P jobs k with
     | none => some k
     | some t => if before P jobs k t = true then some k else some t) else topTX P jobs k
   | none => topTX P jobs k
def topJ (X : SetV) (jobs : List JobV) : Option Nat := topTX (priosL X jobs) jobs jobs.length
theorem topTX_some {P : List Int} {jobs : List JobV} : ∀ {k t : Nat}, topTX P jobs k = some t → t < k ∧ ∃ z, jobs[t]? = some z ∧ z.live = true ∧ z.waits = false
 | 0, t, e => by simp [topTX] at e
 | k + 1, t, e => by
   simp only [topTX] at e
   have again : topTX P jobs k = some t → t < k + 1 ∧ ∃ z, jobs[t]? = some z ∧ z.live = true ∧ z.waits = false := fun e => by
    obtain ⟨h1, h2⟩ := topTX_some e
    exact ⟨by omega, h2⟩
   split at e
   ·rename_i z hz
    split at e
    ·rename_i hlw
     split at e
     ·cases e; exact ⟨by omega, z, hz, hlw⟩
     ·rename_i u hu
      split at e
      ·cases e; exact ⟨by omega, z, hz, hlw⟩
      ·cases e; exact again hu
    ·exact again e
   ·exact again e
def TxI (b jb n : Nat) (r : CV) (P : List Int) (jobs : List JobV) (h : Heap) (m : Nat) (e : Env) (h' : Heap) : Prop :=
 ∃ i : Nat, i ≤ n ∧ m = n - i ∧ e = [(0, .ptr b 0), (4, r), (5, .int .i64 (topI (topTX P jobs i))), (13, .sl jb 0 n n), (14, .int .i64 n), (15, .int .i64 i)] ∧ Keep NoneOf h h'
theorem topX (lp : LP p) (c : CoreV K cells X s Q h) (hn : X.tasks.length ≤ 12) (h8 : K.lb.length ≤ 1000) (hh : HeldOk X s.jobs) :
  WF p 309 [.ptr K.b 0] h fun r h' => r = .tup [.int .i64 (max (topI (topJ X s.jobs)) 0), .bool (decide (0 ≤ topI (topJ X s.jobs)))] ∧ Keep NoneOf h h' := by
 refine WF_of (by rw [lp.pg]; exact S.pg309) (lp.no ⟨rfl, rfl⟩) ?_
 show W p S.b309 _ _ (retQ [.t 2, .t 3] _)
 unfold S.b309
 simp
 refine (priosX lp c hn h8 hh).mono ?_
 rintro r h0 ⟨ow, k0, _⟩
 have c0 := c.on k0
 have lC := ld c0.g
 have hjl := c.jl
 have hT : topJ X s.jobs = topTX (priosL X s.jobs) s.jobs X.tasks.length := by rw [topJ, hjl]
 have hPl : (priosL X s.jobs).length = X.tasks.length := by rw [priosL_length, hjl]
 rw [hT]
 generalize priosL X s.jobs = P at *
 simp [lC]
 refine W_loop (TxI K.b K.jb X.tasks.length r P s.jobs h0) ?_ X.tasks.length ⟨0, by omega, by omega, rfl, Keep.refl _ _⟩
 rintro m e h1 ⟨i, hi, rfl, rfl, k1⟩
 have c1 := c0.on k1
 have ow1 := ow.on k1
 have lC1 := ld c1.g
 by_cases hie : i = X.tasks.length
 ·subst hie
  have hmx := mxL_two (a := topI (topTX P s.jobs X.tasks.length)) (b := 0)
  simp [hmx]
  exact k0.trans k1
 ·have hlt : i < X.tasks.length := by omega
  have hlt' : (i : Int) < X.tasks.length := by omega
  obtain ⟨x, fv, hv, hx, e, s1, s2, hix, hc, hbd⟩ := c1.row hlt
  have hw : IntKind.i64.wrap ((i : Int) + 1) = ((i + 1 : Nat) : Int) := by rw [w64 (by omega) (by omega)]; omega
  have w10 : loadAt h1 K.jb (i * 10) (some 10) = some (.agg (jobCells x fv hv)) := by rw [ldn c1.jg, if_pos hbd, e]
  have jf := jobCells_flat (x := x) s1.scalar s2.scalar
  have sn := store_new (h := h1) (row := jobCells x fv hv) (z := [.bool false, .nils, .int .i64 0, .int .i64 0, .int .i64 0, .int .i64 0, .int .i64 0, .int .i64 0, .bool false, .nils]) rfl jf
  have kap3 := Keep.app NoneOf h1 [.arr (jobCells x fv hv) .tight]
  have jl : (jobCells x fv hv).length = 10 := rfl
  have lr : ∀ o, loadAt (h1 ++ [.arr (jobCells x fv hv) .tight]) h1.length o none = (jobCells x fv hv)[o]? := ld get_new
  have lr0 : loadAt (h1 ++ [.arr (jobCells x fv hv) .tight]) h1.length 0 none = some (.bool x.live) := lr 0
  have lr8 : loadAt (h1 ++ [.arr (jobCells x fv hv) .tight]) h1.length 8 none = some (.bool x.waits) := lr 8
  have lr7 : loadAt (h1 ++ [.arr (jobCells x fv hv) .tight]) h1.length 7 none = some (.int .i64 x.seq) := lr 7
  have K2 : Keep NoneOf h0 (h1 ++ [.arr (jobCells x fv hv) .tight]) := k1.trans kap3
  have next : topTX P s.jobs (i + 1) = topTX P s.jobs i → ∃ m', m' < X.tasks.length - i ∧ TxI K.b K.jb X.tasks.length r P s.jobs h0 m' [(0, .ptr K.b 0), (4, r), (5, .int .i64 (topI (topTX P s.jobs i))), (13, .sl K.jb 0 X.tasks.length X.tasks.length), (14, .int .i64 X.tasks.length), (15, .int .i64 ((i + 1 : Nat) : Int))] (h1 ++ [.arr (jobCells x fv hv) .tight]) :=
   fun ht => ⟨X.tasks.length - (i + 1), by omega, i + 1, by omega, rfl, by rw [ht], K2⟩
  have nextI : topTX P s.jobs (i + 1) = some i → ∃ m', m' < X.tasks.length - i ∧ TxI K.b K.jb X.tasks.length r P s.jobs h0 m' [(0, .ptr K.b 0), (4, r), (5, .int .i64 (i : Int)), (13, .sl K.jb 0 X.tasks.length X.tasks.length), (14, .int .i64 X.tasks.length), (15, .int .i64 ((i + 1 : Nat) : Int))] (h1 ++ [.arr (jobCells x fv hv) .tight]) :=
   fun ht => ⟨X.tasks.length - (i + 1), by omega, i + 1, by omega, rfl, by rw [ht]; rfl, K2⟩
  by_cases hlw : x.live = true ∧ x.waits = false
  ·obtain ⟨hlv, hwt⟩ := hlw
   rw [hlv] at lr0
   rw [hwt] at lr8
   cases ht : topTX P s.jobs i with
   | none =>
     have ht1 : topTX P s.jobs (i + 1) = some i := by simp only [topTX, hx, hlv, hwt, and_self, if_true, ht]
     have := nextI ht1
     simp [hlt, hlt', hix, w10, sn, jl, lr0, lr8, topI, hw]
     simpa using this
   | some t =>
     obtain ⟨hti, y, hy, hyl, hyw⟩ := topTX_some ht
     have ow2 := ow1.on kap3
     have hiP : i < P.length := by omega
     have htP : t < P.length := by omega
     have hbl : (ints .i64 P).length = X.tasks.length := by simp [hPl]
     obtain ⟨bb, hb1, hb2, hb3, _⟩ := ow2.elem (i := i) (by omega) (k := .i64)
     obtain ⟨bb', hb1', hb2', hb3', _⟩ := ow2.elem (i := t) (by omega) (k := .i64)
     have vi : (ints .i64 P)[i]'(by omega) = .int .i64 (P.getD i 0) := by simp [ints, List.getD, hiP]
     have vt : (ints .i64 P)[t]'(by omega) = .int .i64 (P.getD t 0) := by simp [ints, List.getD, htP]
     rw [vi] at hb3
     rw [vt] at hb3'
     have hsi : seqAt s.jobs i = x.seq := by simp [seqAt, hx]
     have hst : seqAt s.jobs t = y.seq := by simp [seqAt, hy]
     have c2 := c1.on kap3
     have lC2 := ld c2.g
     obtain ⟨fy, hyv, _, _, _, _, hiy, lcy, _⟩ := c2.rowAt (by omega : t < X.tasks.length) hy
     have ly7 : loadAt (h1 ++ [.arr (jobCells x fv hv) .tight]) K.jb (t * 10 + 7) none = some (.int .i64 y.seq) := lcy 7 (by decide)
     have htt : t < X.tasks.length := by omega
     have hti0 : ¬ ((t : Int) < 0) := by omega
     have hbe : before P s.jobs i t = (decide (P.getD t 0 < P.getD i 0) || (decide (P.getD i 0 = P.getD t 0) && decide (x.seq < y.seq))) := by rw [before, hsi, hst]
     have htop : topTX P s.jobs (i + 1) = if before P s.jobs i t = true then some i else some t := by simp only [topTX, hx, hlv, hwt, and_self, if_true, ht]
     generalize P.getD i 0 = A at *
     generalize P.getD t 0 = B at *
     by_cases g1 : B < A
     ·have := nextI (by rw [htop, hbe]; simp [g1])
      simp [hlt, hlt', hix, w10, sn, jl, lr0, lr8, topI, hw, hti0, hb2, hb2', hb3, hb3', g1]
      simpa using this
     ·by_cases g2 : A = B
      ·by_cases g3 : x.seq < y.seq
       ·have := nextI (by rw [htop, hbe]; simp [g2, g3])
        simp [hlt, hlt', hix, w10, sn, jl, lr0, lr8, lr7, topI, hw, hti0, hb2, hb2', hb3, hb3', g1, g2, g3, lC2, hiy, htt, ly7]
        simpa using this
       ·have := next (by rw [htop, hbe, ht]; simp [g1, g3])
        rw [ht] at this
        simp [hlt, hlt', hix, w10, sn, jl, lr0, lr8, lr7, topI, hw, hti0, hb2, hb2', hb3, hb3', g1, g2, g3, lC2, hiy, htt, ly7]
        simpa [topI] using this
      ·have := next (by rw [htop, hbe, ht]; simp [g1, g2])
       rw [ht] at this
       simp [hlt, hlt', hix, w10, sn, jl, lr0, lr8, topI, hw, hti0, hb2, hb2', hb3, hb3', g1, g2]
       simpa [topI] using this
  ·have ht1 : topTX P s.jobs (i + 1) = topTX P s.jobs i := by simp only [topTX, hx, hlw, if_false]
   have := next ht1
   by_cases hlv : x.live = true
   ·have hwt : x.waits = true := by
     cases hq : x.waits with
     | true => rfl
     | false => exact absurd ⟨hlv, hq⟩ hlw
    rw [hlv] at lr0
    rw [hwt] at lr8
    simp [hlt, hlt', hix, w10, sn, jl, lr0, lr8, hw]
    simpa using this
   ·simp only [Bool.not_eq_true] at hlv
    rw [hlv] at lr0
    simp [hlt, hlt', hix, w10, sn, jl, lr0, hw]
    simpa using this
end Go.Cl
