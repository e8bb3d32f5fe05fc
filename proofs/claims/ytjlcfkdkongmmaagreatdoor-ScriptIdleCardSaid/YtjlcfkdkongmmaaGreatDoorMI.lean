/-
  Texts laid together: AEnG AEnH AEnI AEnJ AEnK.
-/
import Derived.Test.YtjlcfkdkongmmaaGreatDoorMH
import Derived.Test.YtjlcfkdkongmmaaGreatDoorMD
import Derived.Test.YtjlcfkdkongmmaaGreatDoorME
namespace Go.Cl
open Go
set_option linter.unusedSimpArgs false
set_option linter.unusedVariables false
set_option maxHeartbeats 1000000
variable {p : PP} {K : CoreB} {cells : List CV} {l : List TaskV} {s : CoreS} {Q : Nat → Prop} {h h' : Heap}
theorem lends331 (lp : LP p) (c : CoreA K cells l s Q h) : WF p 331 [.ptr K.b 0] h fun r h' => r = .nils ∧ h' = h := by
 refine WF_of (by rw [lp.pg]; exact S.pg331) (lp.no ⟨rfl, rfl⟩) ?_
 show W p S.b331 _ _ (retQ [.t 2] _)
 unfold S.b331
 have lC := ld c.g
 simp [lC]
 refine W_loop (fun m e h2 => m = 0 ∧ e = [(0, .ptr K.b 0), (3, .nils), (16, .nils), (17, .int .i64 0), (18, .int .i64 0)] ∧ h2 = h) ?_ 0 ⟨rfl, rfl, rfl⟩
 rintro m e h2 ⟨rfl, rfl, rfl⟩
 simp [lC]
 refine W_loop (fun m e h3 => m = 0 ∧ e = [(0, .ptr K.b 0), (3, .nils), (42, .nils), (43, .int .i64 0), (44, .int .i64 0)] ∧ h3 = h2) ?_ 0 ⟨rfl, rfl, rfl⟩
 rintro m e h3 ⟨rfl, rfl, rfl⟩
 simp
def baseL (jobs : List JobV) : List Int := jobs.mapIdx fun j x => if x.live = true then ((jobs.length - j : Nat) : Int) else 0
@[simp] theorem baseL_length {jobs : List JobV} : (baseL jobs).length = jobs.length := by simp [baseL]
theorem baseL_get {jobs : List JobV} {j : Nat} {x : JobV} (hj : jobs[j]? = some x) : (baseL jobs)[j]? = some (if x.live = true then ((jobs.length - j : Nat) : Int) else 0) := by
 simp [baseL, hj]
theorem baseL_nonneg {jobs : List JobV} {x : Int} (hx : x ∈ baseL jobs) : 0 ≤ x := by
 obtain ⟨j, hj⟩ := List.mem_iff_getElem?.1 hx
 have hlt : j < jobs.length := by
  have := (List.getElem?_eq_some_iff.1 hj).1
  simpa using this
 rw [baseL_get (List.getElem?_eq_getElem hlt)] at hj
 have := Option.some.inj hj
 split at this <;> omega
theorem lift_zeros {L : List Int} {n : Nat} (h0 : ∀ x ∈ L, 0 ≤ x) : lift L (List.replicate n 0) = L := by
 apply List.ext_getElem (by simp)
 intro i h1 h2
 have hx := h0 _ (List.getElem_mem h2)
 simp only [lift, List.getElem_mapIdx]
 split
 ·rename_i hi
  simp at hi
  rw [show (List.replicate n (0 : Int)).getD i 0 = 0 by simp [List.getD, hi]]
  omega
 ·rfl
theorem prios_none {L M : List Int} (q : IsPrios L [] M) : M = L := (IsPrios.unique q ⟨OnWay.start L [], fun e he => by simp at he⟩)
def P8I (b jb N n : Nat) (jobs : List JobV) (h : Heap) (m : Nat) (e : Env) (h' : Heap) : Prop :=
 ∃ (i : Nat) (L : List Int), i ≤ n ∧ m = n - i ∧ e = [(0, .ptr b 0), (3, .sl N 0 n n), (4, .sl (N + 1) 0 n n), (24, .sl jb 0 n n), (25, .int .i64 n), (26, .int .i64 i)] ∧ Keep NoneOf h h' ∧
  h'[N]? = some (.arr (ints .i64 L) .tight) ∧ h'[N + 1]? = some (.arr (ints .i64 (List.replicate n 0)) .tight) ∧ L.length = n ∧ ∀ j, j < n → L[j]? = if j < i then (baseL jobs)[j]? else some 0
theorem prios308 (lp : LP p) (c : CoreA K cells l s Q h) (hn : l.length ≤ 12) (hh : ∀ x ∈ s.jobs, x.held = []) :
  WF p 308 [.ptr K.b 0] h fun r h' => Own h' r (ints .i64 (baseL s.jobs)) ∧ Keep NoneOf h h' := by
 refine WF_of (by rw [lp.pg]; exact S.pg308) (lp.no ⟨rfl, rfl⟩) ?_
 show W p S.b308 _ _ (retQ [.t 2] _)
 unfold S.b308
 have lC := ld c.g
 have kap := Keep.app NoneOf h [.arr (List.replicate l.length (.int .i64 0)) .tight]
 have kap2 := Keep.app NoneOf h [.arr (List.replicate l.length (.int .i64 0)) .tight, .arr (List.replicate l.length (.int .i64 0)) .tight]
 have lC1 := ld (c.on kap).g
 have lC2 := ld (c.on kap2).g
 have hbg : l.length ≤ big := by simp [big]; omega
 simp [lC, hbg, lC1, lC2]
 refine W_loop (P8I K.b K.jb h.length l.length s.jobs h) ?_ l.length ⟨0, List.replicate l.length 0, by omega, by omega, rfl, kap2, by simp [ints], by simp [ints], by simp, fun j hj => by simp [hj]⟩
 rintro m e h1 ⟨i, L, hi, rfl, rfl, k1, gb, gl, hL, hLj⟩
 have c1 := c.on k1
 have lC1 := ld c1.g
 have kl1 := k1.len
 by_cases hie : i = l.length
 ·subst hie
  have hLe : L = baseL s.jobs := by
   apply List.ext_getElem?
   intro j
   by_cases hj : j < l.length
   ·rw [hLj j hj, if_pos hj]
   ·rw [List.getElem?_eq_none (by omega), List.getElem?_eq_none (by have := c.jl; simp; omega)]
  subst hLe
  simp
  refine (lends331 lp c1).mono ?_
  rintro r h2 ⟨rfl, rfl⟩
  try simp
  have r0 : Read h2 1 (.sl h.length 0 l.length l.length) (ints .i64 (baseL s.jobs)) := (Mine.read (.inr ⟨_, l.length, .tight, rfl, by rw [ints_length, hL, Nat.mul_one], .inl rfl, gb⟩))
  have r1 : Read h2 1 (.sl (h.length + 1) 0 l.length l.length) (ints .i64 (List.replicate l.length 0)) := (Mine.read (.inr ⟨_, l.length, .tight, rfl, by simp, .inl rfl, gl⟩))
  refine (prios_spec (E := []) (by rw [lp.pg]; exact S.pg17) (lp.no ⟨rfl, rfl⟩) (by rw [lp.pg]; exact S.pg55) (lp.no ⟨rfl, rfl⟩) (by rw [lp.pg]; exact S.pg56) (lp.no ⟨rfl, rfl⟩) r0 r1 (.inl ⟨rfl, rfl⟩) (by rw [hL]; exact hbg) (by simp)).mono ?_
  rintro r h3 ⟨M, ow, ip, k3, _⟩
  rw [lift_zeros fun x hx => baseL_nonneg hx] at ip
  obtain rfl := prios_none ip
  exact ⟨ow, k1.trans k3⟩
 ·have hlt : i < l.length := by omega
  have hlt' : (i : Int) < l.length := by omega
  obtain ⟨x, fv, hv, hx, e, s1, s2, hix, hc, hbd⟩ := c1.row hlt
  have hw : IntKind.i64.wrap ((i : Int) + 1) = ((i + 1 : Nat) : Int) := by rw [w64 (by omega) (by omega)]; omega
  have w10 : loadAt h1 K.jb (i * 10) (some 10) = some (.agg (jobCells x fv hv)) := by rw [ldn c1.jg, if_pos hbd, e]
  have jf := jobCells_flat (x := x) s1.scalar s2.scalar
  have sn := store_new (h := h1) (row := jobCells x fv hv) (z := [.bool false, .nils, .int .i64 0, .int .i64 0, .int .i64 0, .int .i64 0, .int .i64 0, .int .i64 0, .bool false, .nils]) rfl jf
  have kap3 := Keep.app NoneOf h1 [.arr (jobCells x fv hv) .tight]
  have j0 : (jobCells x fv hv)[0]? = some (.bool x.live) := rfl
  have j9 : (jobCells x fv hv)[9]? = some hv := rfl
  have jl : (jobCells x fv hv).length = 10 := rfl
  have bl := baseL_get hx
  have c2 := c1.on kap3
  have lr : loadAt (h1 ++ [.arr (jobCells x fv hv) .tight]) h1.length 0 none = some (.bool x.live) := by rw [ld get_new]; rfl
  have hgb := lt_of_get gb
  have lC2 := ld c2.g
  have gb2 := kap3.at gb id
  have gl2 := kap3.at gl id
  have hhx := hh x (List.mem_of_getElem? hx)
  rw [hhx] at s2
  have n2 : lenV h1 .sl hv = some (.int .i64 0) := s2.len (by decide)
  by_cases hlv : x.live = true
  ·obtain ⟨b0, o0, row, x1, x2, x3, x4⟩ := c2.bs.row (k := .i64) (by decide) (i := i) (by simpa [downs] using hlt)
   have hrow : row = [.int .i64 (downs l.length)[i]!] := by
    have : row = [.int .i64 ((downs l.length)[i]'(by simpa [downs] using hlt))] := x4
    rw [this, getElem!_pos]
   have hdn : (downs l.length)[i]! = ((l.length - i : Nat) : Int) := by
    rw [getElem!_pos _ _ (by simpa [downs] using hlt)]; simp [downs]
   rw [hdn] at hrow
   have x1 : idxAddrV 1 K.bv (.int .i64 (i : Int)) = some (.ptr b0 o0) := x1
   have y := x3 0 (by decide)
   rw [hrow, Nat.add_zero] at y
   simp at y
   have hib : idxAddrV 1 (.sl h.length 0 l.length l.length) (.int .i64 (i : Int)) = some (.ptr h.length i) := by
    rw [idxAddrV_sl, if_pos ⟨by omega, by omega⟩]; simp
   have sb := sto1 gb2 (o := i) (v := .int .i64 ((l.length - i : Nat) : Int)) (by simp [hL, hlt]) rfl
   have k4 : Keep (fun y => y = h.length) (h1 ++ [Obj.arr (jobCells x fv hv) .tight]) ((h1 ++ [Obj.arr (jobCells x fv hv) .tight]).set h.length (.arr ((ints .i64 L).set i (.int .i64 ((l.length - i : Nat) : Int))) .tight)) := Keep.set _ _ rfl
   have n3 : lenV (h1 ++ [Obj.arr (jobCells x fv hv) .tight]) .sl hv = some (.int .i64 0) := (s2.on kap3).len (by decide)
   have g6 := k4.at (get_new (h := h1) (o := .arr (jobCells x fv hv) .tight)) (by omega)
   have l6 := (ld g6 9).trans j9
   have gb4 := get_set_self (o := .arr ((ints .i64 L).set i (.int .i64 ((l.length - i : Nat) : Int))) .tight) (lt_of_get gb2)
   have gl4 := k4.at gl2 (by omega)
   have K4 : Keep NoneOf h ((h1 ++ [Obj.arr (jobCells x fv hv) .tight]).set h.length (.arr ((ints .i64 L).set i (.int .i64 ((l.length - i : Nat) : Int))) .tight)) := (k1.trans kap3).then k4 fun y hy e => by omega
   have n4 : lenV ((h1 ++ [Obj.arr (jobCells x fv hv) .tight]).set h.length (.arr ((ints .i64 L).set i (.int .i64 ((l.length - i : Nat) : Int))) .tight)) .sl hv = some (.int .i64 0) := (((s2.on kap3).keep k4 fun y hy e => by have := (c1.hQ y hy).1; have := (c.hQ y hy).1; omega)).len (by decide)
   simp [hlt, hlt', hix, w10, sn, jl, lr, hlv, lC2, x1, y, hib, sb, l6, n4]
   refine W_loop (fun m e h2 => m = 0 ∧ e = [(0, .ptr K.b 0), (3, .sl h.length 0 l.length l.length), (4, .sl (h.length + 1) 0 l.length l.length), (5, .int .i64 i), (24, .sl K.jb 0 l.length l.length), (25, .int .i64 l.length), (26, .int .i64 i), (45, hv), (46, .int .i64 0), (47, .int .i64 0)] ∧ h2 = (h1 ++ [Obj.arr (jobCells x fv hv) .tight]).set h.length (.arr ((ints .i64 L).set i (.int .i64 ((l.length - i : Nat) : Int))) .tight)) ?_ 0 ⟨rfl, rfl, rfl⟩
   rintro m e h2 ⟨rfl, rfl, rfl⟩
   simp [hw]
   refine ⟨l.length - (i + 1), by omega, i + 1, L.set i ((l.length - i : Nat) : Int), by omega, rfl, rfl, K4, ?_, gl4, by simpa using hL, fun j hj => ?_⟩
   ·rw [gb4]; simp [ints, List.map_set]
   ·by_cases hji : j = i
    ·subst hji
     rw [List.getElem?_set_self (by omega), if_pos (by omega), bl]
     simp [hlv, c.jl]
    ·rw [List.getElem?_set_ne (by omega), hLj j hj]
     by_cases hlt2 : j < i
     ·rw [if_pos hlt2, if_pos (by omega)]
     ·rw [if_neg hlt2, if_neg (by omega)]
  ·simp only [Bool.not_eq_true] at hlv
   simp [hlt, hlt', hix, w10, sn, jl, lr, hlv, hw]
   refine ⟨l.length - (i + 1), by omega, i + 1, L, by omega, rfl, rfl, k1.trans kap3, gb2, gl2, hL, fun j hj => ?_⟩
   rw [hLj j hj]
   by_cases hji : j = i
   ·subst hji
    rw [if_neg (by omega), if_pos (by omega), bl]
    simp [hlv]
   ·by_cases hlt2 : j < i
    ·rw [if_pos hlt2, if_pos (by omega)]
    ·rw [if_neg hlt2, if_neg (by omega)]
def topTo (jobs : List JobV) : Nat → Option Nat
 | 0 => none
 | k + 1 => match topTo jobs k with
   | some t => some t
   | none => match jobs[k]? with
     | some x => if x.live = true then some k else none
     | none => none
def topF (jobs : List JobV) : Option Nat := topTo jobs jobs.length
theorem topTo_some {jobs : List JobV} : ∀ {k t : Nat}, topTo jobs k = some t → t < k ∧ ∃ x, jobs[t]? = some x ∧ x.live = true
 | 0, t, e => by simp [topTo] at e
 | k + 1, t, e => by
   simp only [topTo] at e
   cases h1 : topTo jobs k with
   | some u =>
     rw [h1] at e
     simp at e
     subst e
     have := topTo_some h1
     exact ⟨by omega, this.2⟩
   | none =>
     rw [h1] at e
     cases h2 : jobs[k]? with
     | none => rw [h2] at e; simp at e
     | some x =>
       rw [h2] at e
       simp at e
       exact ⟨by omega, x, by rw [← e.2]; exact h2, e.1⟩
def topI (o : Option Nat) : Int := match o with | some t => (t : Int) | none => -1
def T9I (b jb n : Nat) (r : CV) (jobs : List JobV) (h : Heap) (m : Nat) (e : Env) (h' : Heap) : Prop :=
 ∃ i : Nat, i ≤ n ∧ m = n - i ∧ e = [(0, .ptr b 0), (4, r), (5, .int .i64 (topI (topTo jobs i))), (13, .sl jb 0 n n), (14, .int .i64 n), (15, .int .i64 i)] ∧ Keep NoneOf h h'
theorem Own.on {v : CV} {L : List CV} (o : Own h v L) (k : Keep NoneOf h h') : Own h' v L := o.keep k fun _ _ => id
theorem top309 (lp : LP p) (c : CoreA K cells l s Q h) (hn : l.length ≤ 12) (hh : ∀ x ∈ s.jobs, x.held = [] ∧ x.waits = false) :
  WF p 309 [.ptr K.b 0] h fun r h' => r = .tup [.int .i64 (max (topI (topF s.jobs)) 0), .bool (decide (0 ≤ topI (topF s.jobs)))] ∧ Keep NoneOf h h' := by
 refine WF_of (by rw [lp.pg]; exact S.pg309) (lp.no ⟨rfl, rfl⟩) ?_
 show W p S.b309 _ _ (retQ [.t 2, .t 3] _)
 unfold S.b309
 simp
 refine (prios308 lp c hn fun x hx => (hh x hx).1).mono ?_
 rintro r h0 ⟨ow, k0⟩
 have c0 := c.on k0
 have lC := ld c0.g
 simp [lC]
 refine W_loop (T9I K.b K.jb l.length r s.jobs h0) ?_ l.length ⟨0, by omega, by omega, rfl, Keep.refl _ _⟩
 rintro m e h1 ⟨i, hi, rfl, rfl, k1⟩
 have c1 := c0.on k1
 have ow1 := ow.on k1
 have lC1 := ld c1.g
 by_cases hie : i = l.length
 ·subst hie
  have hT : topF s.jobs = topTo s.jobs l.length := by rw [topF, c.jl]
  have hmx : mxL [.int .i64 (topI (topTo s.jobs l.length)), .int .i64 0] = some (.int .i64 (max (topI (topF s.jobs)) 0)) := by
   rw [hT]
   simp only [mxL, mxR]
   by_cases h0 : topI (topTo s.jobs l.length) < 0
   ·simp [h0]; omega
   ·simp [h0]; omega
  simp [hmx, hT]
  exact k0.trans k1
 ·have hlt : i < l.length := by omega
  have hlt' : (i : Int) < l.length := by omega
  obtain ⟨x, fv, hv, hx, e, s1, s2, hix, hc, hbd⟩ := c1.row hlt
  have hw : IntKind.i64.wrap ((i : Int) + 1) = ((i + 1 : Nat) : Int) := by rw [w64 (by omega) (by omega)]; omega
  have w10 : loadAt h1 K.jb (i * 10) (some 10) = some (.agg (jobCells x fv hv)) := by rw [ldn c1.jg, if_pos hbd, e]
  have jf := jobCells_flat (x := x) s1.scalar s2.scalar
  have sn := store_new (h := h1) (row := jobCells x fv hv) (z := [.bool false, .nils, .int .i64 0, .int .i64 0, .int .i64 0, .int .i64 0, .int .i64 0, .int .i64 0, .bool false, .nils]) rfl jf
  have kap3 := Keep.app NoneOf h1 [.arr (jobCells x fv hv) .tight]
  have jl : (jobCells x fv hv).length = 10 := rfl
  have lr : ∀ o, loadAt (h1 ++ [.arr (jobCells x fv hv) .tight]) h1.length o none = (jobCells x fv hv)[o]? := ld get_new
  have lr0 := lr 0
  have lr8 := lr 8
  have j0 : (jobCells x fv hv)[0]? = some (.bool x.live) := rfl
  have j8 : (jobCells x fv hv)[8]? = some (.bool x.waits) := rfl
  have hxx := hh x (List.mem_of_getElem? hx)
  rw [j0] at lr0
  rw [j8, hxx.2] at lr8
  have K2 : Keep NoneOf h0 (h1 ++ [.arr (jobCells x fv hv) .tight]) := k1.trans kap3
  by_cases hlv : x.live = true
  ·rw [hlv] at lr0
   cases ht : topTo s.jobs i with
   | none =>
     have ht1 : topTo s.jobs (i + 1) = some i := by simp only [topTo, ht, hx, hlv, if_true]
     simp [hlt, hlt', hix, w10, sn, jl, lr0, lr8, topI, hw]
     exact ⟨l.length - (i + 1), by omega, i + 1, by omega, rfl, by simp [ht1, topI], K2⟩
   | some t =>
     have ht1 : topTo s.jobs (i + 1) = some t := by simp only [topTo, ht]
     obtain ⟨hti, y, hy, hyl⟩ := topTo_some ht
     have bi := baseL_get hx
     have bt := baseL_get hy
     simp only [hlv, hyl, if_true, c.jl] at bi bt
     have ow2 := ow1.on kap3
     have hbl : (ints .i64 (baseL s.jobs)).length = l.length := by simp [c.jl]
     obtain ⟨bb, hb1, hb2, hb3, _⟩ := ow2.elem (i := i) (by omega) (k := .i64)
     obtain ⟨bb', hb1', hb2', hb3', _⟩ := ow2.elem (i := t) (by omega) (k := .i64)
     have vi : (ints .i64 (baseL s.jobs))[i]'(by omega) = .int .i64 ((l.length - i : Nat) : Int) := by
      have : (ints .i64 (baseL s.jobs))[i]? = some (.int .i64 ((l.length - i : Nat) : Int)) := by rw [ints_get, bi]; rfl
      exact (List.getElem?_eq_some_iff.1 this).2
     have vt : (ints .i64 (baseL s.jobs))[t]'(by omega) = .int .i64 ((l.length - t : Nat) : Int) := by
      have : (ints .i64 (baseL s.jobs))[t]? = some (.int .i64 ((l.length - t : Nat) : Int)) := by rw [ints_get, bt]; rfl
      exact (List.getElem?_eq_some_iff.1 this).2
     rw [vi] at hb3
     rw [vt] at hb3'
     have g1 : ¬ ((l.length - t : Nat) : Int) < ((l.length - i : Nat) : Int) := by omega
     have g2 : ¬ ((l.length - i : Nat) : Int) = ((l.length - t : Nat) : Int) := by omega
     generalize ((l.length - t : Nat) : Int) = A at *
     generalize ((l.length - i : Nat) : Int) = B at *
     have hti0 : ¬ ((t : Int) < 0) := by omega
     simp [hlt, hlt', hix, w10, sn, jl, lr0, lr8, topI, hw, hti0, hb2, hb2', hb3, hb3', g1, g2]
     exact ⟨l.length - (i + 1), by omega, i + 1, by omega, rfl, by simp [ht1, topI], K2⟩
  ·simp only [Bool.not_eq_true] at hlv
   rw [hlv] at lr0
   have ht1 : topTo s.jobs (i + 1) = topTo s.jobs i := by
    simp only [topTo]
    cases ht : topTo s.jobs i with
    | none => simp [hx, hlv]
    | some t => rfl
   simp [hlt, hlt', hix, w10, sn, jl, lr0, hw]
   exact ⟨l.length - (i + 1), by omega, i + 1, by omega, rfl, by simp [ht1], K2⟩
def evtC : Cod (List CV) where
 n := 7
 rep _ _ c x := c = x ∧ x.length = 7 ∧ x.all CV.scalar = true
 len e := by obtain ⟨rfl, e, _⟩ := e; exact e
 flat e := by obtain ⟨rfl, _, e⟩ := e; exact e
 mono e _ := e
 keep e _ _ := e
 lt e := e
theorem evtC_one {h : Heap} {x : List CV} (hx : x.length = 7) (hs : x.all CV.scalar = true) : Sl evtC (h ++ [.arr x .tight]) (From h) (.sl h.length 0 1 1) [x] :=
 Sl.fresh (Rows.one ⟨rfl, hx, hs⟩) rfl
theorem cloneOp (lp : LP p) {h : Heap} {P : Nat → Prop} {v : CV} {l : List OpV} (s : Sl opC h P v l) (hP : ∀ b, P b → b < h.length) (hb : l.length ≤ 1000) :
  WF p 333 [v] h fun r h' => r.scalar = true ∧ Keep NoneOf h h' := by
 by_cases hv : v = .nils
 ·subst hv
  refine WF_of (by rw [lp.pg]; exact S.pg333) (lp.no ⟨rfl, rfl⟩) ?_
  show W p S.b333 _ _ (retQ [.t 2] _)
  unfold S.b333
  simp
  exact Keep.refl _ _
 ·exact (cloneO lp s hv hP hb).mono fun r h' q => ⟨q.1.scalar, q.2.1⟩
theorem job312 (lp : LP p) (c : CoreA K cells l s Q h) {i : Nat} {x : JobV} (hi : i < l.length) (hx : s.jobs[i]? = some x) (hf : x.flat.length ≤ 1000) (hh : x.held.length ≤ big) :
  WF p 312 [.ptr K.b 0, .int .i64 i] h fun r h' => ∃ d, r = .agg d ∧ d.length = 10 ∧ d[0]? = some (.bool x.live) ∧ d[3]? = some (.int .i64 x.left) ∧ Keep NoneOf h h' := by
 refine WF_of (by rw [lp.pg]; exact S.pg312) (lp.no ⟨rfl, rfl⟩) ?_
 show W p S.b312 _ _ (retQ [.cell (some 10) 4] _)
 unfold S.b312
 have kap := Keep.app NoneOf h [.arr [.bool false, .nils, .int .i64 0, .int .i64 0, .int .i64 0, .int .i64 0, .int .i64 0, .int .i64 0, .bool false, .nils] .tight]
 have c0 := c.on kap
 have g0 := get_new (h := h) (o := .arr [.bool false, .nils, .int .i64 0, .int .i64 0, .int .i64 0, .int .i64 0, .int .i64 0, .int .i64 0, .bool false, .nils] .tight)
 have hl0 : (h ++ [Obj.arr [.bool false, .nils, .int .i64 0, .int .i64 0, .int .i64 0, .int .i64 0, .int .i64 0, .int .i64 0, .bool false, .nils] .tight]).length = h.length + 1 := by simp
 simp
 generalize h ++ [Obj.arr [.bool false, .nils, .int .i64 0, .int .i64 0, .int .i64 0, .int .i64 0, .int .i64 0, .int .i64 0, .bool false, .nils] .tight] = H0 at *
 refine (known323 lp c0 i).mono ?_
 rintro r h1 ⟨rfl, rfl⟩
 have lC := ld c0.g
 obtain ⟨y, fv, hv, hy, e, s1, s2, hix, hc, hbd⟩ := c0.row hi
 obtain rfl : x = y := by rw [hx] at hy; exact Option.some.inj hy
 have w10 : loadAt h1 K.jb (i * 10) (some 10) = some (.agg (jobCells x fv hv)) := by rw [ldn c0.jg, if_pos hbd, e]
 have jf := jobCells_flat (x := x) s1.scalar s2.scalar
 have sn := store_new (h := h1) (row := jobCells x fv hv) (z := [.bool false, .nils, .int .i64 0, .int .i64 0, .int .i64 0, .int .i64 0, .int .i64 0, .int .i64 0, .bool false, .nils]) rfl jf
 have kap3 := Keep.app NoneOf h1 [.arr (jobCells x fv hv) .tight]
 have g5 := get_new (h := h1) (o := .arr (jobCells x fv hv) .tight)
 have jl : (jobCells x fv hv).length = 10 := rfl
 have hl3 : (h1 ++ [Obj.arr (jobCells x fv hv) .tight]).length = h1.length + 1 := by simp
 have g03 := kap3.at g0 id
 have t1 := s1.on kap3
 have t2 := s2.on kap3
 simp [hi, lC, hix, w10, sn, jl]
 generalize h1 ++ [Obj.arr (jobCells x fv hv) .tight] = H3 at *
 have lr1 : loadAt H3 h1.length 1 none = some fv := by rw [ld g5]; rfl
 have lr9 : loadAt H3 h1.length 9 none = some hv := by rw [ld g5]; rfl
 simp [lr1, lr9]
 refine WO_re_n ?_
 simp
 have hown := c.own_lt
 refine (cloneOp lp t1 (fun b hb => by have := (c0.hQ b hb).1; omega) hf).mono ?_
 rintro r4 h4 ⟨hr4, k4⟩
 have g54 := k4.at g5 id
 have lr94 : loadAt h4 h1.length 9 none = some hv := by rw [ld g54]; rfl
 refine ⟨fun c' => by simp [recheckB, wanted, Env.get, cls, evOp, Opd.ev, withH, CV.eqb, CV.eqb_refl, CV.eqbL_refl, lr94, i64], ?_⟩
 try simp
 refine (cloneN_spec (by rw [lp.pg]; exact S.pg55) (lp.no ⟨rfl, rfl⟩) (t2.on k4) hh).mono ?_
 rintro r6 h6 ⟨o6, k6, _⟩
 have hr6 := o6.scalar
 have g56 := k6.at g54 id
 have g06 := k6.at (k4.at g03 id) id
 have c4 := CV.cells_scalar hr4
 have c6 := CV.cells_scalar hr6
 have f4 := fits_scalar hr4
 have f6 := fits_scalar hr6
 have s7 := sto1 g56 (o := 1) (v := r4) (by simp [jl]) hr4
 have g57 := get_set_self (o := .arr ((jobCells x fv hv).set 1 r4) .tight) (lt_of_get g56)
 have k7 : Keep (fun y => y = h1.length) h6 (h6.set h1.length (.arr ((jobCells x fv hv).set 1 r4) .tight)) := Keep.set _ _ rfl
 have s8 := sto1 g57 (o := 9) (v := r6) (by simp [jl]) hr6
 have k8 : Keep (fun y => y = h1.length) (h6.set h1.length (.arr ((jobCells x fv hv).set 1 r4) .tight)) ((h6.set h1.length (.arr ((jobCells x fv hv).set 1 r4) .tight)).set h1.length (.arr (((jobCells x fv hv).set 1 r4).set 9 r6) .tight)) := Keep.set _ _ rfl
 have g58 := get_set_self (o := .arr (((jobCells x fv hv).set 1 r4).set 9 r6) .tight) (lt_of_get g57)
 have hj : ((jobCells x fv hv).set 1 r4).set 9 r6 = jobCells x r4 r6 := rfl
 rw [hj] at s8 k8 g58
 have g08 := k8.at (k7.at g06 (by omega)) (by omega)
 have K8 : Keep NoneOf h ((h6.set h1.length (.arr ((jobCells x fv hv).set 1 r4) .tight)).set h1.length (.arr (jobCells x r4 r6) .tight)) :=
  ((((kap.trans kap3).trans k4).trans k6).then k7 fun y hy e => by omega).then k8 fun y hy e => by omega
 rw [if_pos f4, c4, s7]
 simp only [OV_some]
 rw [if_pos f6, c6, s8]
 simp only [OV_some]
 generalize (h6.set h1.length (.arr ((jobCells x fv hv).set 1 r4) .tight)).set h1.length (.arr (jobCells x r4 r6) .tight) = H8 at *
 have w8 := ldw g58 (n := 10) rfl
 have s9 := sto g08 (vs := jobCells x r4 r6) rfl (jobCells_flat hr4 hr6)
 have w9 := ldw (get_set_self (o := .arr (jobCells x r4 r6) .tight) (lt_of_get g08)) (n := 10) rfl
 have hca : ∀ l, (CV.agg l).cells = l := fun _ => rfl
 have jl6 : (jobCells x r4 r6).length = 10 := rfl
 simp [w8, hca, jl6, s9, w9]
 exact ⟨rfl, rfl, K8.then (Keep.set (S := fun y => y = h.length) _ _ rfl) fun y hy e => by omega⟩
set_option maxHeartbeats 2000000
theorem stJob (c : CoreA K cells l s Q h) {i : Nat} {row : List CV} {x : JobV} (hi : i < l.length) (r : jobC.rep h Q row x) : storeAt h K.jb (i * 10) row = some (h.set K.jb (.arr (splice cells (i * 10) row) .tight)) := by
 have dl : row.length = 10 := jobC.len r
 have := c.jobN
 rw [stt c.jg, if_pos ⟨by rw [dl]; omega, jobC.flat r⟩]
theorem tick310 (lp : LP p) (c : CoreA K cells l s Q h) {i : Nat} {x : JobV} (hi : i < l.length) (hx : s.jobs[i]? = some x) (hlv : x.live = true) (hwt : x.waits = false) (hlf : x.left ≠ 0) (hov : (tickF x).2 = false) :
  WF p 310 [.ptr K.b 0, .int .i64 i] h fun r h' => CoreN K l { s with jobs := s.jobs.set i (tickF x).1 } Q h h' ∧ Sl evtC h' (From h) r [evt s.now 3 i 0] := by
 refine WF_of (by rw [lp.pg]; exact S.pg310) (lp.no ⟨rfl, rfl⟩) ?_
 show W p S.b310 _ _ (retQ [.t 4] _)
 unfold S.b310
 simp
 refine (known323 lp c i).mono ?_
 rintro r h1 ⟨rfl, rfl⟩
 have lC := ld c.g
 obtain ⟨y, fv, hv, hy, e, s1, s2, hix, hc, hbd⟩ := c.row hi
 obtain rfl : x = y := by rw [hx] at hy; exact Option.some.inj hy
 have lj : ∀ k, k < 10 → loadAt h1 K.jb (i * 10 + k) none = (jobCells x fv hv)[k]? := fun k hk => by rw [ld c.jg, hc k hk]
 have l0 : loadAt h1 K.jb (i * 10) none = some (.bool true) := by have := lj 0 (by omega); rw [Nat.add_zero] at this; rw [this, ← hlv]; rfl
 have l8 : loadAt h1 K.jb (i * 10 + 8) none = some (.bool false) := by rw [lj 8 (by omega), ← hwt]; rfl
 have l3 : loadAt h1 K.jb (i * 10 + 3) none = some (.int .i64 x.left) := by rw [lj 3 (by omega)]; rfl
 have w10 : loadAt h1 K.jb (i * 10) (some 10) = some (.agg (jobCells x fv hv)) := by rw [ldn c.jg, if_pos hbd, e]
 have kap := Keep.app NoneOf h1 [.arr (evt s.now 3 i 0) .tight]
 have c2 := c.on kap
 have lC2 := ld c2.g
 have w102 : loadAt (h1 ++ [.arr (evt s.now 3 i 0) .tight]) K.jb (i * 10) (some 10) = some (.agg (jobCells x fv hv)) := by rw [ldn c2.jg, if_pos hbd, e]
 have rx2 : jobC.rep (h1 ++ [.arr (evt s.now 3 i 0) .tight]) Q (jobCells x fv hv) x := ⟨fv, hv, rfl, s1.on kap, s2.on kap⟩
 have ev2 : Sl evtC (h1 ++ [.arr (evt s.now 3 i 0) .tight]) (From h1) (.sl h1.length 0 1 1) [evt s.now 3 i 0] := evtC_one rfl rfl
 have hl2 : (h1 ++ [Obj.arr (evt s.now 3 i 0) .tight]).length = h1.length + 1 := by simp
 have hbs : fillC [.int .i64 0, .int .i64 0, .int .i64 0, .int .i64 0, .int .i64 0, .int .i64 0, .int .i64 0] [(0, 7, .agg (evt s.now 3 i 0))] = some (evt s.now 3 i 0) := rfl
 simp [hi, lC, hix, l0, l8, l3, hlf, evt_fill3, hbs]
 generalize h1 ++ [Obj.arr (evt s.now 3 i 0) .tight] = H2 at *
 simp [lC2, hix, hi, w102]
 refine (tick_spec (by rw [lp.pg]; exact S.pg39) (lp.no ⟨rfl, rfl⟩) rx2).mono ?_
 rintro r h3 ⟨k3, d, rfl, rd⟩
 rw [hov]
 have dl : d.length = 10 := jobC.len rd
 have df := jobC.flat rd
 have sn := store_new (h := h3) (row := d) (z := [.bool false, .nils, .int .i64 0, .int .i64 0, .int .i64 0, .int .i64 0, .int .i64 0, .int .i64 0, .bool false, .nils]) (by rw [dl]; rfl) df
 have kap3 := Keep.app NoneOf h3 [.arr d .tight]
 have c4 := (c2.on k3).on kap3
 have lC4 := ld c4.g
 have w4 := ldw (get_new (h := h3) (o := .arr d .tight)) (n := 10) dl
 have rd4 := jobC.on rd kap3
 have sj := stJob c4 hi rd4
 have c5 := c4.setJob hi rd4
 have ev4 := (ev2.on k3).on kap3
 have hca : ∀ l, (CV.agg l).cells = l := fun _ => rfl
 have hkl := k3.len
 simp [dl, hca, sn]
 generalize h3 ++ [Obj.arr d .tight] = H4 at *
 simp [lC4, w4, hix, hi, dl, hca, sj]
 have k5 : Keep (fun y => y = K.jb) H4 (H4.set K.jb (.arr (splice cells (i * 10) d) .tight)) := Keep.set _ _ rfl
 have hown := c.own_lt
 refine ⟨⟨(((kap.trans k3).trans kap3).mono fun _ _ => False.elim).then k5 fun y _ e => .inr (.inl e), Q, _, c5, fun y => .inl⟩, ?_⟩
 exact ev4.keep k5 fun b hb e => by
  have := hown K.jb (.inr (.inl rfl))
  simp only [From] at hb
  omega
theorem begin325 (lp : LP p) (c : CoreA K cells l s Q h) {i : Nat} {x : JobV} {t : Int} (hi : i < l.length) (hx : s.jobs[i]? = some x) (hb : (beginF x).2 = true) :
  WF p 325 [.ptr K.b 0, .int .i64 t, .int .i64 i] h fun r h' => r = .nils ∧ CoreN K l { s with jobs := s.jobs.set i (beginF x).1 } Q h h' := by
 refine WF_of (by rw [lp.pg]; exact S.pg325) (lp.no ⟨rfl, rfl⟩) ?_
 show W p S.b325 _ _ (retQ [.t 6] _)
 unfold S.b325
 have lC := ld c.g
 obtain ⟨y, fv, hv, hy, e, s1, s2, hix, hc, hbd⟩ := c.row hi
 obtain rfl : x = y := by rw [hx] at hy; exact Option.some.inj hy
 have w10 : loadAt h K.jb (i * 10) (some 10) = some (.agg (jobCells x fv hv)) := by rw [ldn c.jg, if_pos hbd, e]
 have rx : jobC.rep h Q (jobCells x fv hv) x := ⟨fv, hv, rfl, s1, s2⟩
 simp [lC, hix, hi, w10]
 refine (begin36 lp rx).mono ?_
 rintro r h3 ⟨k3, d, rfl, rd⟩
 rw [hb]
 have dl : d.length = 10 := jobC.len rd
 have df := jobC.flat rd
 have sn := store_new (h := h3) (row := d) (z := [.bool false, .nils, .int .i64 0, .int .i64 0, .int .i64 0, .int .i64 0, .int .i64 0, .int .i64 0, .bool false, .nils]) (by rw [dl]; rfl) df
 have kap3 := Keep.app NoneOf h3 [.arr d .tight]
 have c4 := (c.on k3).on kap3
 have lC4 := ld c4.g
 have w4 := ldw (get_new (h := h3) (o := .arr d .tight)) (n := 10) dl
 have rd4 := jobC.on rd kap3
 have sj := stJob c4 hi rd4
 have c5 := c4.setJob hi rd4
 have hca : ∀ l, (CV.agg l).cells = l := fun _ => rfl
 simp [dl, hca, sn]
 generalize h3 ++ [Obj.arr d .tight] = H4 at *
 simp [lC4, w4, hix, hi, dl, hca, sj]
 exact ⟨((k3.trans kap3).mono fun _ _ => False.elim).then (Keep.set (S := fun y => y = K.jb) _ _ rfl) fun y _ e => .inr (.inl e), Q, _, c5, fun y => .inl⟩
def opS (s : CoreS) (i : Nat) (bh : Bool) : Option (CoreS × List (List CV)) :=
 match s.jobs[i]? with
 | none => none
 | some x =>
   if x.live = true ∧ x.waits = false ∧ x.left = 0 then
    if (nowF x).2 = false then some ({ s with jobs := s.jobs.set i deadJ }, [evt (s.now + if bh = true then 1 else 0) 6 i 0])
    else if (nowF x).1.kind = 1 ∧ (beginF x).2 = true then some ({ s with jobs := s.jobs.set i (beginF x).1 }, [])
    else none
   else none
theorem op307 (lp : LP p) (c : CoreA K cells l s Q h) {i : Nat} (hi : i < l.length) {bh : Bool} {s' : CoreS} {ev : List (List CV)} (ho : opS s i bh = some (s', ev)) (hw : IntKind.i64.wrap (s.now + 1) = s.now + 1) :
  WF p 307 [.ptr K.b 0, .int .i64 i, .bool bh] h fun r h' => ∃ v, r = .tup [v, .bool true] ∧ CoreN K l s' Q h h' ∧ Sl evtC h' (From h) v ev := by
 obtain ⟨x, fv, hv, hx, e, s1, s2, hix, hc, hbd⟩ := c.row hi
 simp only [opS, hx] at ho
 by_cases hpre : x.live = true ∧ x.waits = false ∧ x.left = 0
 case neg => simp [hpre] at ho
 rw [if_pos hpre] at ho
 obtain ⟨hlv, hwt, hlf⟩ := hpre
 refine WF_of (by rw [lp.pg]; exact S.pg307) (lp.no ⟨rfl, rfl⟩) ?_
 show W p S.b307 _ _ (retQ [.t 6, .t 7] _)
 unfold S.b307
 simp
 refine (known323 lp c i).mono ?_
 rintro r h1 ⟨rfl, rfl⟩
 have lC := ld c.g
 have lj : ∀ k, k < 10 → loadAt h1 K.jb (i * 10 + k) none = (jobCells x fv hv)[k]? := fun k hk => by rw [ld c.jg, hc k hk]
 have l0 : loadAt h1 K.jb (i * 10) none = some (.bool true) := by have := lj 0 (by omega); rw [Nat.add_zero] at this; rw [this, ← hlv]; rfl
 have l8 : loadAt h1 K.jb (i * 10 + 8) none = some (.bool false) := by rw [lj 8 (by omega), ← hwt]; rfl
 have l3 : loadAt h1 K.jb (i * 10 + 3) none = some (.int .i64 0) := by rw [lj 3 (by omega), ← hlf]; rfl
 have w10 : loadAt h1 K.jb (i * 10) (some 10) = some (.agg (jobCells x fv hv)) := by rw [ldn c.jg, if_pos hbd, e]
 have rx : jobC.rep h1 Q (jobCells x fv hv) x := ⟨fv, hv, rfl, s1, s2⟩
 have hca : ∀ l, (CV.agg l).cells = l := fun _ => rfl
 have hown := c.own_lt
 have hjb := hown K.jb (.inr (.inl rfl))
 have key : WF p 30 [.agg (jobCells x fv hv)] h1 fun r h2 => Keep NoneOf h1 h2 ∧ ∃ d, r = .tup [.agg d, .bool (nowF x).2] ∧ opC.rep h2 Q d (nowF x).1 := now_spec (by rw [lp.pg]; exact S.pg30) (lp.no ⟨rfl, rfl⟩) rx
 have hbs : ∀ T : Int, fillC [.int .i64 0, .int .i64 0, .int .i64 0, .int .i64 0, .int .i64 0, .int .i64 0, .int .i64 0] [(0, 7, .agg (evt T 6 i 0))] = some (evt T 6 i 0) := fun _ => rfl
 have hz : fillC [.bool false, .nils, .int .i64 0, .int .i64 0, .int .i64 0, .int .i64 0, .int .i64 0, .int .i64 0, .bool false, .nils] [] = some deadC := rfl
 have dcl : deadC.length = 10 := rfl
 have rz : ∀ h, jobC.rep h Q deadC deadJ := fun h => ⟨.nils, .nils, rfl, Sl.nil, Sl.nil⟩
 cases bh
 all_goals
  simp [hi, lC, hix, l0, l8, l3, w10, hw]
  refine key.mono ?_
  rintro r h2 ⟨k2, d, rfl, rd⟩
  have dl : d.length = 5 := opC.len rd
  have df := opC.flat rd
  have sn := store_new (h := h2) (row := d) (z := [.int .i64 0, .int .i64 0, .int .i64 0, .int .i64 0, .nils]) (by rw [dl]; rfl) df
  have kap3 := Keep.app NoneOf h2 [.arr d .tight]
  have c4 := (c.on k2).on kap3
  have lC4 := ld c4.g
  have K4 := k2.trans kap3
  have g4 := get_new (h := h2) (o := .arr d .tight)
  simp [dl, hca, sn]
  generalize h2 ++ [Obj.arr d .tight] = H4 at *
  by_cases hok : (nowF x).2 = false
  ·rw [if_pos hok] at ho
   simp at ho
   obtain ⟨rfl, rfl⟩ := ho
   have sj := stJob c4 hi (rz _)
   have c5 := c4.setJob hi (rz _)
   have k5 : Keep (fun y => y = K.jb) H4 (H4.set K.jb (.arr (splice cells (i * 10) deadC) .tight)) := Keep.set _ _ rfl
   have kl5 := k5.len
   have kl4 := K4.len
   have hl5 : (H4.set K.jb (.arr (splice cells (i * 10) deadC) .tight)).length = H4.length := by simp
   simp [hok, lC4, hix, hi, hz, dcl, hca, sj, evt_fill3, hbs]
   generalize H4.set K.jb (.arr (splice cells (i * 10) deadC) .tight) = H5 at *
   refine ⟨CoreN.on ⟨(K4.mono fun _ _ => False.elim).then k5 fun y _ e => .inr (.inl e), Q, _, c5, fun y => .inl⟩ (Keep.app _ _ _), ?_⟩
   rw [← hl5]
   exact (evtC_one rfl rfl).mono fun y hy => by simp only [From] at hy ⊢; omega
  ·rw [if_neg hok] at ho
   by_cases hk : (nowF x).1.kind = 1 ∧ (beginF x).2 = true
   case neg => simp [hk] at ho
   rw [if_pos hk] at ho
   simp at ho
   obtain ⟨rfl, rfl⟩ := ho
   have hok : (nowF x).2 = true := by simpa using hok
   have d0 : loadAt H4 h2.length 0 none = some (.int .i64 1) := by
    obtain ⟨cv, rfl, _⟩ := rd
    rw [ld g4, ← hk.1]; rfl
   simp [hok, d0]
   refine (begin325 lp c4 hi hx hk.2).mono ?_
   rintro r h6 ⟨rfl, n6⟩
   try simp
   exact ⟨CoreN.from K4 n6, Sl.nil⟩
end Go.Cl
