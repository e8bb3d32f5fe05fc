/-
  Texts laid together: ASet ASetK ASetC.
-/
import Derived.Test.YtlndogibbgibgaaGreatDoorM8
import Derived.Test.YtlndogibbgibgaaGreatDoorM5
import Derived.Test.YtlndogibbgibgaaGreatDoorMB
namespace Go.Cl
open Go
set_option linter.unusedSimpArgs false
set_option linter.unusedVariables false
set_option maxHeartbeats 2000000
variable {p : PP}
def chL (x : ChanV) : List CV := [.int .i64 x.room, .int .i64 x.server]
def chanC : Cod ChanV where
 n := 2
 rep _ _ c x := c = chL x
 len e := by subst e; rfl
 flat e := by subst e; rfl
 mono e _ := e
 keep e _ _ := e
 lt e := e
def tkL (x : TaskV) (pv : CV) : List CV := [.str x.name, .int .i64 x.per, .int .i64 x.dl, .int .i64 x.bud, pv]
def taskC : Cod TaskV where
 n := 5
 rep h P c x := ∃ pv, c = tkL x pv ∧ Sl opC h P pv x.prog
 len := by rintro h P c x ⟨pv, rfl, _⟩; rfl
 flat := by rintro h P c x ⟨pv, rfl, s⟩; simp only [tkL, List.all_cons, List.all_nil, s.scalar]; rfl
 mono := by rintro h P Q c x ⟨pv, rfl, s⟩ k; exact ⟨pv, rfl, s.mono k⟩
 keep := by rintro h h' P S c x ⟨pv, rfl, s⟩ k hS; exact ⟨pv, rfl, s.keep k hS⟩
 lt := by rintro h P c x ⟨pv, rfl, s⟩; exact ⟨pv, rfl, s.lt⟩
def setC : Cod SetV where
 n := 3
 rep h P c x := ∃ cv tv, c = [.int .i64 x.locks, cv, tv] ∧ Sl chanC h P cv x.chans ∧ Sl taskC h P tv x.tasks
 len := by rintro h P c x ⟨cv, tv, rfl, _⟩; rfl
 flat := by rintro h P c x ⟨cv, tv, rfl, s, t⟩; simp only [List.all_cons, List.all_nil, s.scalar, t.scalar]; rfl
 mono := by rintro h P Q c x ⟨cv, tv, rfl, s, t⟩ k; exact ⟨cv, tv, rfl, s.mono k, t.mono k⟩
 keep := by rintro h h' P S c x ⟨cv, tv, rfl, s, t⟩ k hS; exact ⟨cv, tv, rfl, s.keep k hS, t.keep k hS⟩
 lt := by rintro h P c x ⟨cv, tv, rfl, s, t⟩; exact ⟨cv, tv, rfl, s.lt, t.lt⟩
theorem OV_cpy {α : Type} {ec : Cod α} {H : Heap} {l : List α} {cc : List CV} {n : Nat} {P : Nat → Prop} {K : CV × Heap → Prop} (r : Rows ec (H ++ [.arr [] .tight]) P cc l) (hP : ∀ b, P b → b < H.length) (hn : n = l.length) (hl : l.length ≤ big) (he : 0 < ec.n)
  (kk : ∀ v1 h3, OwnL ec h3 P v1 l → Keep NoneOf H h3 → (∀ b, v1.blk = some b → H.length ≤ b) → K (v1, h3)) : OV (appendTo (H ++ [.arr [] .tight]) ec.n (.sl H.length 0 0 0) n cc) K := by
 have kap := Keep.app NoneOf H [.arr [] .tight]
 have ow0 : OwnL ec (H ++ [.arr [] .tight]) P (.sl H.length 0 0 0) [] := ⟨[], .inr ⟨H.length, 0, .tight, rfl, by simp, .inl rfl, by simp⟩, Rows.nil, fun b hb hn => by simp [CV.blk] at hb; have := hP b hn; omega⟩
 refine OV_pushes (e := ec) (m := l) ow0 r hn (fun b hb => by have := hP b hb; simp; omega) (by simp) hl he ?_
 intro v1 h3 o1 k3 hb3
 refine kk v1 h3 (by simpa using o1) (kap.then k3 fun b hb e => by simp [CV.blk] at e; omega) fun b hb => ?_
 rcases hb3 b hb with g | g
 ·simp [CV.blk] at g; omega
 ·simp at g; omega
structure SetV.Fit (x : SetV) : Prop where
 c : x.chans.length ≤ 1000000
 t : x.tasks.length ≤ 1000000
 p : ∀ t ∈ x.tasks, t.prog.length ≤ 1000000 ∧ ∀ o ∈ t.prog, o.cases.length ≤ 1000000
structure SoH (h : Heap) (c : List CV) (x : SetV) (ov tv : CV) (i j : Nat) (h' : Heap) : Prop where
 k : Keep NoneOf h h'
 g0 : h'[h.length]? = some (.arr c .tight)
 g1 : h'[h.length + 1]? = some (.arr [.int .i64 0, .nils, .nils] .tight)
 g2 : h'[h.length + 2]? = some (.arr [.int .i64 x.locks, ov, tv] .tight)
 oc : OwnL chanC h' NoneOf ov (x.chans.take i)
 ot : OwnN taskC (h.length + 3) h' tv (x.tasks.take j)
 bo : ∀ b, ov.blk = some b → h.length + 3 ≤ b
 bt : ∀ b, tv.blk = some b → h.length + 3 ≤ b
 ap : ∀ b, ov.blk = some b → tv.blk ≠ some b
def CgInv (v : CV) (K : Nat) (caps : List CV) (l : List Case) (F : Case → Bool) (h : Heap) (m : Nat) (e : Env) (h' : Heap) : Prop :=
 ∃ i : Nat, i ≤ l.length ∧ m = l.length - i ∧ e = [(0, v), (1, .fn K caps), (7, .int .i64 l.length), (8, .int .i64 i)] ∧ Keep NoneOf h h' ∧ (l.take i).any F = false
theorem caseAny_spec (lp : LP p) {K : Nat} {caps : List CV} {F : Case → Bool} {h : Heap} {v : CV} {l : List Case} {P : Nat → Prop} (s : Sl caseC h P v l) (hl : l.length ≤ big)
  (see : ∀ h1 (x : Case), Keep NoneOf h h1 → WF p K ([.agg (caL x)] ++ caps) h1 fun r h2 => r = .bool (F x) ∧ Keep NoneOf h1 h2) :
  WF p 235 [v, .fn K caps] h fun r h' => r = .bool (l.any F) ∧ Keep NoneOf h h' := by
 refine WF_of (by rw [lp.pg]; exact S.pg235) (lp.no ⟨rfl, rfl⟩) ?_
 show W p S.b235 _ _ (retQ [.t 4] _)
 unfold S.b235
 simp
 suffices w : WF p 238 [v, .fn K caps] h fun r h' => (∃ k : Int, r = .int .i64 k ∧ decide (0 ≤ k) = l.any F) ∧ Keep NoneOf h h' by
  refine w.mono ?_
  rintro r h1 ⟨⟨j, rfl, hj⟩, k1⟩
  rw [← hj]
  simp
  exact k1
 refine WF_of (by rw [lp.pg]; exact S.pg238) (lp.no ⟨rfl, rfl⟩) ?_
 show W p S.b238 _ _ (retQ [.t 4] _)
 unfold S.b238
 have n0 := s.len (by decide)
 simp [n0]
 refine W_loop (CgInv v K caps l F h) ?_ l.length ⟨0, by omega, by omega, rfl, Keep.refl _ _, rfl⟩
 rintro m e h1 ⟨i, hi, rfl, rfl, k1, hno⟩
 by_cases hie : i = l.length
 ·subst hie
  rw [List.take_length] at hno
  simp [hno]
  exact k1
 ·have hlt : i < l.length := by omega
  have hlt' : (i : Int) < l.length := by omega
  obtain ⟨b0, o0, row, x1, x2, x3, x4⟩ := (s.on k1).row (k := .i64) (by decide) hlt
  have x4 : row = caL l[i] := x4
  simp only [caseC] at x1 x2
  rw [x4] at x2
  have hw : IntKind.i64.wrap ((i : Int) + 1) = ((i + 1 : Nat) : Int) := by
   simp [big] at hl
   rw [w64 (by omega) (by omega)]; omega
  simp [hlt', x1, x2]
  refine (see h1 l[i] k1).mono ?_
  rintro r h2 ⟨rfl, k2⟩
  cases hq : F l[i] with
  | true =>
    have : l.any F = true := List.any_eq_true.2 ⟨l[i], List.getElem_mem hlt, hq⟩
    simp [hq, this]
    exact k1.trans k2
  | false =>
    simp [hq, hw]
    refine ⟨l.length - (i + 1), by omega, i + 1, by omega, rfl, rfl, k1.trans k2, ?_⟩
    rw [← List.take_append_getElem hlt, List.any_append, hno]
    simp [hq]
structure SetAt (h : Heap) (P : Nat → Prop) (b : Nat) (s : SetV) (cv tv : CV) : Prop where
 g : h[b]? = some (.arr [.int .i64 s.locks, cv, tv] .tight)
 c : Sl chanC h P cv s.chans
 t : Sl taskC h P tv s.tasks
theorem SetAt.on {h h' : Heap} {P : Nat → Prop} {b : Nat} {s : SetV} {cv tv : CV} (q : SetAt h P b s cv tv) (k : Keep NoneOf h h') : SetAt h' P b s cv tv := ⟨k.at q.g id, q.c.on k, q.t.on k⟩
theorem known1_spec (lp : LP p) {h : Heap} {P : Nat → Prop} {b : Nat} {s : SetV} {cv tv : CV} (q : SetAt h P b s cv tv) {x : Case} :
  WF p 298 [.agg (caL x), .ptr b 0] h fun r h' => r = .bool (decide ((s.chans.length : Int) ≤ x.chan)) ∧ Keep NoneOf h h' := by
 refine WF_of (by rw [lp.pg]; exact S.pg298) (lp.no ⟨rfl, rfl⟩) ?_
 show W p S.b298 _ _ (retQ [.t 3] _)
 unfold S.b298
 have q1 := q.on (Keep.app NoneOf h [.arr (caL x) .tight])
 have lS := ld q1.g
 have lX := ld (get_new (h := h) (o := .arr (caL x) .tight))
 have n0 := q1.c.len (by decide)
 have c1 : (caL x)[1]? = some (.int .i64 x.chan) := rfl
 simp [lS, lX, c1, n0]
 exact Keep.app _ _ _
theorem all_any {l : List Case} {n : Int} : (l.all fun c => decide (c.chan < n)) = !(l.any fun c => decide (n ≤ c.chan)) := by
 induction l with
 | nil => rfl
 | cons c r ih =>
   simp only [List.all_cons, List.any_cons, ih]
   by_cases h : c.chan < n
   ·have : ¬ n ≤ c.chan := by omega
    simp [h, this]
   ·have : n ≤ c.chan := by omega
    simp [h, this]
theorem known_spec (lp : LP p) {h : Heap} {P Q : Nat → Prop} {s : SetV} {c d : List CV} {o : OpV} (rs : setC.rep h P c s) (ro : opC.rep h Q d o) (hc : o.cases.length ≤ big) :
  WF p 288 [.agg c, .agg d] h fun r h' => r = .bool (knownP s o) ∧ Keep NoneOf h h' := by
 refine WF_of (by rw [lp.pg]; exact S.pg288) (lp.no ⟨rfl, rfl⟩) ?_
 show W p S.b288 _ _ (retQ [.t 4] _)
 unfold S.b288
 obtain ⟨cv, tv, hc0, sc, st⟩ := rs
 obtain ⟨kv, hd, sk⟩ := ro
 have kap := Keep.app NoneOf h [.arr c .tight, .arr d .tight]
 have gS : (h ++ [.arr c .tight, .arr d .tight])[h.length]? = some (.arr c .tight) := by simp
 have gO : (h ++ [.arr c .tight, .arr d .tight])[h.length + 1]? = some (.arr d .tight) := by simp
 have q : SetAt (h ++ [.arr c .tight, .arr d .tight]) P h.length s cv tv := ⟨by rw [gS, hc0], sc.on kap, st.on kap⟩
 have sk1 := sk.on kap
 have lS := ld gS
 have lO := ld gO
 have n0 := q.c.len (by decide)
 have s0 : c[0]? = some (.int .i64 s.locks) := by subst hc0; rfl
 have s1 : c[1]? = some cv := by subst hc0; rfl
 have d0 : d[0]? = some (.int .i64 o.kind) := by subst hd; rfl
 have d1 : d[1]? = some (.int .i64 o.n) := by subst hd; rfl
 have d4 : d[4]? = some kv := by subst hd; rfl
 clear hc0 hd
 by_cases a : o.kind = 2 ∨ o.kind = 3
 ·have e : knownP s o = decide (o.n < s.locks) := by unfold knownP; rw [if_pos a]
  rw [e]
  rcases a with a | a <;>
  ·simp [lS, lO, s0, d0, d1, a]
   exact kap
 ·by_cases b : o.kind = 4 ∨ o.kind = 5 ∨ o.kind = 6
  ·have e : knownP s o = decide (o.n < s.chans.length) := by unfold knownP; rw [if_neg a, if_pos b]
   rw [e]
   rcases b with b | b | b <;>
   ·simp [lS, lO, s1, d0, d1, b, n0]
    exact kap
  ·have e : knownP s o = !(o.cases.any fun c => decide ((s.chans.length : Int) ≤ c.chan)) := by unfold knownP; rw [if_neg a, if_neg b, all_any]
   rw [e]
   have a2 : ¬ o.kind = 2 := by omega
   have a3 : ¬ o.kind = 3 := by omega
   have b4 : ¬ o.kind = 4 := by omega
   have b5 : ¬ o.kind = 5 := by omega
   have b6 : ¬ o.kind = 6 := by omega
   simp [lS, lO, d0, d4, a2, a3, b4, b5, b6]
   refine (caseAny_spec lp sk1 hc (F := fun c => decide ((s.chans.length : Int) ≤ c.chan)) fun h1 x k1 => known1_spec lp (q.on k1)).mono ?_
   rintro r h2 ⟨rfl, k2⟩
   simp
   exact kap.trans k2
theorem taskRow {h : Heap} {v : CV} {l : List TaskV} {P : Nat → Prop} (s : Sl taskC h P v l) {i : Nat} (hi : i < l.length) :
  ∃ b o pv, idxAddrV 5 v (.int .i64 (i : Int)) = some (.ptr b o) ∧ loadAt h b o (some 5) = some (.agg (tkL l[i] pv)) ∧ loadAt h b o none = some (.str l[i].name) ∧ Sl opC h P pv l[i].prog := by
 obtain ⟨bb, ob, row, x1, x2, x3, pv, hrow, sp⟩ := s.row (k := .i64) (by decide) hi
 have y0 := x3 0 (by decide)
 subst hrow
 rw [Nat.add_zero] at y0
 exact ⟨bb, ob, pv, x1, x2, y0, sp⟩
theorem tkL_flat {t : TaskV} {pv : CV} (h : pv.scalar = true) : (tkL t pv).all CV.scalar = true := by
 simp [tkL, h]
def hasName (l : List TaskV) (n : List UInt8) : Bool := l.any fun u => decide (u.name = n)
def FnInv (tv : CV) (n : List UInt8) (l : List TaskV) (h : Heap) (m : Nat) (e : Env) (h' : Heap) : Prop :=
 ∃ i : Nat, i ≤ l.length ∧ m = l.length - i ∧ e = [(1, .str n), (9, tv), (10, .int .i64 l.length), (11, .int .i64 i)] ∧ Keep NoneOf h h' ∧ hasName (l.take i) n = false
def FindQ (s : SetV) (n : List UInt8) (h : Heap) (r : CV) (h' : Heap) : Prop :=
 (∃ (k : Nat) (b : Bool), r = .tup [.int .i64 (k : Int), .bool b] ∧ b = hasName s.tasks n ∧ (b = true → ∃ t, s.tasks[k]? = some t ∧ t.name = n ∧ hasName (s.tasks.take k) n = false) ∧ (b = false → k = 0)) ∧ Keep NoneOf h h'
theorem find_spec (lp : LP p) {h : Heap} {P : Nat → Prop} {s : SetV} {c : List CV} {n : List UInt8} (rs : setC.rep h P c s) (hl : s.tasks.length ≤ 1000) :
  WF p 285 [.agg c, .str n] h (FindQ s n h) := by
 refine WF_of (by rw [lp.pg]; exact S.pg285) (lp.no ⟨rfl, rfl⟩) ?_
 show W p S.b285 _ _ (retQ [.t 4, .t 5] _)
 unfold S.b285
 obtain ⟨cv, tv, hc0, sc, st⟩ := rs
 have kap := Keep.app NoneOf h [.arr c .tight]
 have lS := ld (get_new (h := h) (o := .arr c .tight))
 have st1 := st.on kap
 have n0 := st1.len (by decide)
 have s2 : c[2]? = some tv := by subst hc0; rfl
 clear hc0
 simp [lS, s2, n0]
 refine W_loop (FnInv tv n s.tasks h) ?_ s.tasks.length ⟨0, by omega, by omega, rfl, kap, rfl⟩
 rintro m e h1 ⟨i, hi, rfl, rfl, k1, hno⟩
 by_cases hie : i = s.tasks.length
 ·subst hie
  rw [List.take_length] at hno
  simp
  exact ⟨⟨0, false, rfl, hno.symm, (fun e => by cases e), fun _ => rfl⟩, k1⟩
 ·have hlt : i < s.tasks.length := by omega
  have hlt' : (i : Int) < s.tasks.length := by omega
  have hw : IntKind.i64.wrap ((i : Int) + 1) = ((i + 1 : Nat) : Int) := by rw [w64 (by omega) (by omega)]; omega
  obtain ⟨b0, o0, pv, x1, x2, x3, sp⟩ := taskRow (st.on k1) hlt
  have st5 := store_new (h := h1) (row := tkL s.tasks[i] pv) (z := [.str [], .int .i64 0, .int .i64 0, .int .i64 0, .nils]) rfl (tkL_flat sp.scalar)
  have lT := ld (get_new (h := h1) (o := .arr (tkL s.tasks[i] pv) .tight))
  have ff : fits (some 5) (.agg (tkL s.tasks[i] pv)) = true := rfl
  have t0 : (tkL s.tasks[i] pv)[0]? = some (.str s.tasks[i].name) := rfl
  have x2n := load_on x2 (Keep.app NoneOf h1 [.arr [.str [], .int .i64 0, .int .i64 0, .int .i64 0, .nils] .tight]) (some 5) o0
  by_cases hn : s.tasks[i].name = n
  ·have ha : hasName s.tasks n = true := List.any_eq_true.2 ⟨_, List.getElem_mem hlt, by simpa using hn⟩
   simp [hlt', x1, x2, st5, ff, lT, t0, hn]
   exact ⟨⟨i, true, rfl, ha.symm, fun _ => ⟨s.tasks[i], List.getElem?_eq_getElem hlt, hn, hno⟩, fun e => by cases e⟩, k1.trans (Keep.app _ _ _)⟩
  ·simp [hlt', x1, x2, st5, ff, lT, t0, hn, hw]
   refine ⟨s.tasks.length - (i + 1), by omega, i + 1, by omega, rfl, rfl, k1.trans (Keep.app _ _ _), ?_⟩
   rw [← List.take_append_getElem hlt]
   unfold hasName at *
   rw [List.any_append, hno]
   simp [hn]
def TnInv (b : Nat) (pv : CV) (l : List OpV) (s : SetV) (h : Heap) (m : Nat) (e : Env) (h' : Heap) : Prop :=
 ∃ i : Nat, i ≤ l.length ∧ m = l.length - i ∧ e = [(2, .ptr b 0), (77, pv), (78, .int .i64 l.length), (79, .int .i64 i)] ∧ Keep NoneOf h h' ∧ (l.take i).all (knownP s) = true
theorem task_spec (lp : LP p) {h : Heap} {P : Nat → Prop} {s : SetV} {c : List CV} (rs : setC.rep h P c s) (hl : s.tasks.length ≤ 1000) {i : Nat} (hi : i < s.tasks.length) (hp : s.tasks[i].prog.length ≤ big) (hc : ∀ o ∈ s.tasks[i].prog, o.cases.length ≤ 1000000) (hn : s.tasks[i].name.length ≤ 9223372036854775807) :
  WF p 273 [.agg c, .int .i64 (i : Int)] h fun r h' => r = .int .i64 (taskP s i s.tasks[i]) ∧ Keep NoneOf h h' := by
 refine WF_of (by rw [lp.pg]; exact S.pg273) (lp.no ⟨rfl, rfl⟩) ?_
 show W p S.b273 _ _ (retQ [.t 4] _)
 unfold S.b273
 have rs0 := rs
 obtain ⟨cv, tv, hc0, sc, st⟩ := rs
 have cl := setC.len rs0
 have kap := Keep.app NoneOf h [.arr c .tight]
 have gS := get_new (h := h) (o := .arr c .tight)
 have lS := ld gS
 have st1 := st.on kap
 have s2 : c[2]? = some tv := by subst hc0; rfl
 clear hc0 sc
 obtain ⟨b0, o0, pv, x1, x2, x3, sp⟩ := taskRow st1 hi
 have hlt' : (i : Int) < s.tasks.length := by omega
 have st5 := store_new2 (h := h) (o := .arr c .tight) (row := tkL s.tasks[i] pv) (z := [.str [], .int .i64 0, .int .i64 0, .int .i64 0, .nils]) rfl (tkL_flat sp.scalar)
 have ff : fits (some 5) (.agg (tkL s.tasks[i] pv)) = true := rfl
 have kT : Keep NoneOf h (h ++ [.arr c .tight, .arr (tkL s.tasks[i] pv) .tight]) := Keep.app _ _ _
 have k12 : Keep NoneOf (h ++ [.arr c .tight]) (h ++ [.arr c .tight, .arr (tkL s.tasks[i] pv) .tight]) := by
  have := Keep.app NoneOf (h ++ [.arr c .tight]) [.arr (tkL s.tasks[i] pv) .tight]
  rw [List.append_assoc] at this
  exact this
 have gS2 : (h ++ [.arr c .tight, .arr (tkL s.tasks[i] pv) .tight])[h.length]? = some (.arr c .tight) := by simp
 have gT : (h ++ [.arr c .tight, .arr (tkL s.tasks[i] pv) .tight])[h.length + 1]? = some (.arr (tkL s.tasks[i] pv) .tight) := by simp
 have spT := sp.on k12
 have rsT := setC.on rs0 kT
 have tn : taskP s i s.tasks[i] = taskP s i s.tasks[i] := rfl
 generalize hT : s.tasks[i] = t at *
 have t0 : (tkL t pv)[0]? = some (.str t.name) := rfl
 have t1 : (tkL t pv)[1]? = some (.int .i64 t.per) := rfl
 have t2 : (tkL t pv)[2]? = some (.int .i64 t.dl) := rfl
 have t3 : (tkL t pv)[3]? = some (.int .i64 t.bud) := rfl
 have t4 : (tkL t pv)[4]? = some pv := rfl
 have lT := ld gT
 simp [lS, s2, x1, x2, st5, ff, lT, t0]
 generalize h ++ [Obj.arr c .tight, Obj.arr (tkL t pv) .tight] = H at *
 refine (wordName_spec lp hn).mono ?_
 rintro r h1 ⟨rfl, rfl⟩
 cases hname : nameP t.name with
 | false =>
   have e : taskP s i t = 3 := by unfold taskP; rw [if_pos hname]
   simp [e]
   exact kT
 | true =>
   have lSn := ldw gS2 cl
   have cl3 : setC.n = 3 := rfl
   rw [cl3] at lSn
   simp [lSn, lT, t0]
   refine (find_spec lp rsT hl).mono ?_
   rintro r h2 ⟨⟨k, b, rfl, hb, hb1, hb0⟩, k2⟩
   have hti : s.tasks[i]? = some t := by rw [List.getElem?_eq_getElem hi, hT]
   have hbt : b = true := by
    rw [hb]
    exact List.any_eq_true.2 ⟨t, List.mem_of_getElem? hti, by simp⟩
   obtain ⟨u, hu1, hu2, hu3⟩ := hb1 hbt
   have hki : k ≤ i := by
    rcases Nat.lt_or_ge i k with g | g
    ·exfalso
     have : hasName (s.tasks.take k) t.name = true := by
      refine List.any_eq_true.2 ⟨t, ?_, by simp⟩
      refine List.mem_of_getElem? (i := i) ?_
      rw [List.getElem?_take_of_lt g, hti]
     rw [hu3] at this; cases this
    ·exact g
   have hfirst : hasName (s.tasks.take i) t.name = decide (k < i) := by
    by_cases g : k < i
    ·have : hasName (s.tasks.take i) t.name = true := by
      refine List.any_eq_true.2 ⟨u, ?_, by simpa using hu2⟩
      refine List.mem_of_getElem? (i := k) ?_
      rw [List.getElem?_take_of_lt g, hu1]
     rw [this]; simp [g]
    ·have : k = i := by omega
     subst this
     rw [hu3]; simp
   subst hbt
   have K2 := kT.trans k2
   by_cases g : k < i
   ·have g' : (k : Int) < i := by omega
    have e : taskP s i t = 6 := by
     unfold taskP
     rw [if_neg (by simp [hname]), if_pos (by rw [show (s.tasks.take i).any (fun u => decide (u.name = t.name)) = hasName (s.tasks.take i) t.name from rfl, hfirst]; simpa using g)]
    simp [g', g, e]
    exact K2
   ·have g' : ¬ (k : Int) < i := by omega
    have e6 : ¬ (s.tasks.take i).any (fun u => decide (u.name = t.name)) = true := by
     rw [show (s.tasks.take i).any (fun u => decide (u.name = t.name)) = hasName (s.tasks.take i) t.name from rfl, hfirst]; simpa using g
    have lT2 := ld (k2.at gT id)
    have gS3 := k2.at gS2 id
    have spT2 := spT.on k2
    have rsT2 := setC.on rsT k2
    have eT : timesBad t = true → taskP s i t = 1 := fun q => by
     unfold taskP
     rw [if_neg (by simp [hname]), if_neg e6, if_pos q]
    by_cases a1 : t.per < 1
    ·have e := eT (by simp [timesBad, a1])
     simp [g', g, lT2, t1, t2, t3, a1, e]
     exact K2
    by_cases a2 : 1099511627776 < t.per
    ·have e := eT (by simp [timesBad, a2])
     simp [g', g, lT2, t1, t2, t3, a1, a2, e]
     exact K2
    by_cases a3 : t.dl < 1
    ·have e := eT (by simp [timesBad, a3])
     simp [g', g, lT2, t1, t2, t3, a1, a2, a3, e]
     exact K2
    by_cases a4 : t.per < t.dl
    ·have e := eT (by simp [timesBad, a4])
     simp [g', g, lT2, t1, t2, t3, a1, a2, a3, a4, e]
     exact K2
    by_cases a5 : t.bud < 1
    ·have e := eT (by simp [timesBad, a5])
     simp [g', g, lT2, t1, t2, t3, a1, a2, a3, a4, a5, e]
     exact K2
    by_cases a6 : t.dl < t.bud
    ·have e := eT (by simp [timesBad, a6])
     simp [g', g, lT2, t1, t2, t3, a1, a2, a3, a4, a5, a6, e]
     exact K2
    have hT0 : ¬ timesBad t = true := by simp [timesBad]; omega
    simp [g', g, lT2, t1, t2, t3, t4, a1, a2, a3, a4, a5, a6]
    refine (progCheck_spec lp spT2 hp hc).mono ?_
    rintro r h3 ⟨rfl, k3⟩
    have K3 := K2.trans k3
    have lT3 := ld (k3.at (k2.at gT id) id)
    have spT3 := spT2.on k3
    have gS4 := k3.at gS3 id
    have rsT3 := setC.on rsT2 k3
    by_cases b1 : (progP t.prog).2 = 0
    ·obtain ⟨h48, hok, _, s', ho, hs2, _⟩ := prog_ok b1
     have hfit : ∀ o ∈ t.prog, opFit o := fun o ho => opFit_of (hok o ho)
     have hdep : depthOk t.prog 0 := by have := order_depth _ _ _ _ ho; simpa using this
     simp [b1, lT3, t4]
     refine (cost_spec lp spT3 (by omega) hdep hfit).mono ?_
     rintro r h4 ⟨rfl, k4⟩
     have K4 := K3.trans k4
     have lT4 := ld (k4.at (k3.at (k2.at gT id) id) id)
     have spT4 := spT3.on k4
     have gS5 := k4.at gS4 id
     have rsT4 := setC.on rsT3 k4
     by_cases b2 : costP t.prog = 0
     ·have e : taskP s i t = 5 := by
       unfold taskP
       rw [if_neg (by simp [hname]), if_neg e6, if_neg hT0, if_neg (by simp [b1]), if_pos b2]
      simp [b2, e]
      exact K4
     ·have hE : taskP s i t = if t.prog.all (knownP s) = true then 0 else 3 := by
       unfold taskP
       rw [if_neg (by simp [hname]), if_neg e6, if_neg hT0, if_neg (by simp [b1]), if_neg b2]
      have np := spT4.len (by decide)
      simp [b2, lT4, t4, np]
      refine W_loop (TnInv h.length pv t.prog s h4) ?_ t.prog.length ⟨0, by omega, by omega, rfl, Keep.refl _ _, rfl⟩
      rintro m e h5 ⟨j, hj, rfl, rfl, k5, hall⟩
      by_cases hje : j = t.prog.length
      ·subst hje
       rw [List.take_length] at hall
       rw [if_pos hall] at hE
       simp [hE]
       exact K4.trans k5
      ·have hlt : j < t.prog.length := by omega
       have hltj : (j : Int) < t.prog.length := by omega
       have hw : IntKind.i64.wrap ((j : Int) + 1) = ((j + 1 : Nat) : Int) := by rw [w64 (by omega) (by omega)]; omega
       obtain ⟨b6, o6, row, y1, y2, y3, y4, y5, y6⟩ := opRow (spT4.on k5) hlt
       have st6 := store_new (h := h5) (row := row) (z := [.int .i64 0, .int .i64 0, .int .i64 0, .int .i64 0, .nils]) y6 (opC.flat y5)
       have kap6 := Keep.app NoneOf h5 [.arr row .tight]
       have lR6 := ldw (get_new (h := h5) (o := .arr row .tight)) y6
       have lS6 := ldw (kap6.at (k5.at gS5 id) id) cl
       rw [cl3] at lS6
       have ff6 : fits (some 5) (.agg row) = true := by simp [y6]
       simp [hltj, y1, y2, st6, ff6, lR6, lS6]
       refine (known_spec lp (setC.on (setC.on rsT4 k5) kap6) (opC.on y5 kap6) (by have := hc _ (List.getElem_mem hlt); simp [big]; omega)).mono ?_
       rintro r h6 ⟨rfl, k6⟩
       have K6 := (K4.trans k5).trans (kap6.trans k6)
       cases hkn : knownP s t.prog[j] with
       | true =>
         simp [hw]
         refine ⟨t.prog.length - (j + 1), by omega, j + 1, by omega, rfl, rfl, k5.trans (kap6.trans k6), ?_⟩
         rw [← List.take_append_getElem hlt, List.all_append, hall]
         simp [hkn]
       | false =>
         have hnall : ¬ t.prog.all (knownP s) = true := fun q => by
          have := List.all_eq_true.1 q _ (List.getElem_mem hlt)
          rw [hkn] at this; cases this
         rw [if_neg hnall] at hE
         simp [hE]
         exact K6
    ·have e : taskP s i t = (progP t.prog).2 := by
      unfold taskP
      rw [if_neg (by simp [hname]), if_neg e6, if_neg hT0, if_pos b1]
     simp [b1, e]
     exact K3
structure SetV.Sane (s : SetV) : Prop where
 p : ∀ t ∈ s.tasks, t.prog.length ≤ big ∧ (∀ o ∈ t.prog, o.cases.length ≤ 1000000) ∧ t.name.length ≤ 9223372036854775807
 c : s.chans.length ≤ big
 t : s.tasks.length ≤ big
def ScA (b : Nat) (cv : CV) (s : SetV) (h : Heap) (m : Nat) (e : Env) (h' : Heap) : Prop :=
 ∃ i : Nat, i ≤ s.chans.length ∧ m = s.chans.length - i ∧ e = [(1, .ptr b 0), (33, cv), (34, .int .i64 s.chans.length), (35, .int .i64 i)] ∧ Keep NoneOf h h' ∧ (s.chans.take i).any (chanBad s) = false
def ScB (b : Nat) (s : SetV) (h : Heap) (m : Nat) (e : Env) (h' : Heap) : Prop :=
 ∃ i : Nat, i ≤ s.tasks.length ∧ m = s.tasks.length - i ∧ e = [(1, .ptr b 0), (63, .int .i64 s.tasks.length), (64, .int .i64 i)] ∧ Keep NoneOf h h' ∧ tasksGo s 0 s.tasks = tasksGo s i (s.tasks.drop i)
theorem setCheck_spec (lp : LP p) {h : Heap} {P : Nat → Prop} {s : SetV} {c : List CV} (rs : setC.rep h P c s) (hs : s.Sane) :
  WF p 265 [.agg c] h fun r h' => r = .tup [.int .i64 (setP s).1, .int .i64 (setP s).2] ∧ Keep NoneOf h h' := by
 refine WF_of (by rw [lp.pg]; exact S.pg265) (lp.no ⟨rfl, rfl⟩) ?_
 show W p S.b265 _ _ (retQ [.t 2, .t 3] _)
 unfold S.b265
 have cl := setC.len rs
 have cl3 : setC.n = 3 := rfl
 have kap := Keep.app NoneOf h [.arr c .tight]
 have gS := get_new (h := h) (o := .arr c .tight)
 have lS := ld gS
 have rs1 := setC.on rs kap
 obtain ⟨cv, tv, hc0, sc, st⟩ := rs
 have s0 : c[0]? = some (.int .i64 s.locks) := by subst hc0; rfl
 have s1 : c[1]? = some cv := by subst hc0; rfl
 have s2 : c[2]? = some tv := by subst hc0; rfl
 clear hc0
 have sc1 := sc.on kap
 have st1 := st.on kap
 have nc := sc1.len (by decide)
 have nt := st1.len (by decide)
 by_cases a1 : s.locks < 0
 ·have e : setP s = (0, 1) := by unfold setP; rw [if_pos (.inl a1)]
  simp [lS, s0, a1, e]
  exact kap
 by_cases a2 : 8 < s.locks
 ·have e : setP s = (0, 1) := by unfold setP; rw [if_pos (.inr a2)]
  simp [lS, s0, a1, a2, e]
  exact kap
 by_cases a3 : 8 < s.chans.length
 ·have e : setP s = (0, 18) := by unfold setP; rw [if_neg (by omega), if_pos (.inl a3)]
  have a3' : (8 : Int) < s.chans.length := by omega
  simp [lS, s0, s1, s2, nc, nt, a1, a2, a3, a3', e]
  exact kap
 have a3' : ¬ (8 : Int) < s.chans.length := by omega
 by_cases a4 : s.tasks.length < 1
 ·have e : setP s = (0, 18) := by unfold setP; rw [if_neg (by omega), if_pos (.inr (.inl a4))]
  have a4' : (s.tasks.length : Int) < 1 := by omega
  have a4'' : s.tasks.length = 0 := by omega
  simp [lS, s0, s1, s2, nc, nt, a1, a2, a3, a3', a4, a4', a4'', e]
  exact kap
 have a4' : ¬ (s.tasks.length : Int) < 1 := by omega
 have a4'' : ¬ s.tasks.length = 0 := by omega
 by_cases a5 : 12 < s.tasks.length
 ·have e : setP s = (0, 18) := by unfold setP; rw [if_neg (by omega), if_pos (.inr (.inr a5))]
  have a5' : (12 : Int) < s.tasks.length := by omega
  simp [lS, s0, s1, s2, nc, nt, a1, a2, a3, a3', a4, a4', a4'', a5, a5', e]
  exact kap
 have a5' : ¬ (12 : Int) < s.tasks.length := by omega
 have hE : setP s = if s.chans.any (chanBad s) = true then (0, 1) else tasksGo s 0 s.tasks := by
  unfold setP
  rw [if_neg (by omega), if_neg (by omega)]
 simp [lS, s0, s1, s2, nc, nt, a1, a2, a3, a3', a4, a4', a4'', a5, a5']
 generalize h ++ [Obj.arr c .tight] = H at *
 refine W_loop (ScA h.length cv s H) ?_ s.chans.length ⟨0, by omega, by omega, rfl, Keep.refl _ _, rfl⟩
 rintro m e h1 ⟨i, hi, rfl, rfl, k1, hno⟩
 have lS1 := ld (k1.at gS id)
 have nt1 := (st1.on k1).len (by decide)
 by_cases hie : i = s.chans.length
 ·subst hie
  rw [List.take_length] at hno
  rw [if_neg (by simp [hno])] at hE
  simp [lS1, s2, nt1]
  refine W_loop (ScB h.length s h1) ?_ s.tasks.length ⟨0, by omega, by omega, rfl, Keep.refl _ _, rfl⟩
  rintro m e h2 ⟨j, hj, rfl, rfl, k2, hgo⟩
  by_cases hje : j = s.tasks.length
  ·subst hje
   rw [List.drop_length, tasksGo] at hgo
   rw [hgo] at hE
   simp [hE]
   exact (kap.trans k1).trans k2
  ·have hlt : j < s.tasks.length := by omega
   have hlt' : (j : Int) < s.tasks.length := by omega
   have hw : IntKind.i64.wrap ((j : Int) + 1) = ((j + 1 : Nat) : Int) := by rw [w64 (by omega) (by omega)]; omega
   have lW := ldw (k2.at (k1.at gS id) id) cl
   rw [cl3] at lW
   have hsn := hs.p _ (List.getElem_mem hlt)
   rw [List.drop_eq_getElem_cons hlt, tasksGo] at hgo
   simp [hlt', lW]
   refine (task_spec lp (setC.on (setC.on rs1 k1) k2) (by omega) hlt hsn.1 hsn.2.1 hsn.2.2).mono ?_
   rintro r h3 ⟨rfl, k3⟩
   by_cases h0 : taskP s j s.tasks[j] = 0
   ·rw [if_pos h0] at hgo
    simp [h0, hw]
    exact ⟨s.tasks.length - (j + 1), by omega, j + 1, by omega, rfl, rfl, k2.trans k3, hgo⟩
   ·rw [if_neg h0] at hgo
    rw [hgo] at hE
    simp [h0, hE]
    exact ((kap.trans k1).trans k2).trans k3
 ·have hlt : i < s.chans.length := by omega
  have hlt' : (i : Int) < s.chans.length := by omega
  have hw : IntKind.i64.wrap ((i : Int) + 1) = ((i + 1 : Nat) : Int) := by rw [w64 (by omega) (by omega)]; omega
  obtain ⟨b0, o0, row, x1, x2, x3, x4⟩ := (sc1.on k1).row (k := .i64) (by decide) hlt
  have x4 : row = chL s.chans[i] := x4
  subst x4
  simp only [chanC] at x1 x2
  have st2 := store_new (h := h1) (row := chL s.chans[i]) (z := [.int .i64 0, .int .i64 0]) rfl rfl
  have lC := ld (get_new (h := h1) (o := .arr (chL s.chans[i]) .tight))
  have kap1 := Keep.app NoneOf h1 [.arr (chL s.chans[i]) .tight]
  have lS2 := ld (kap1.at (k1.at gS id) id)
  have nt2 := ((st1.on k1).on kap1).len (by decide)
  have ff : fits (some 2) (.agg (chL s.chans[i])) = true := rfl
  have q0 : (chL s.chans[i])[0]? = some (.int .i64 s.chans[i].room) := rfl
  have q1 : (chL s.chans[i])[1]? = some (.int .i64 s.chans[i].server) := rfl
  have bad : chanBad s s.chans[i] = true → setP s = (0, 1) := fun q => by
   rw [hE, if_pos (List.any_eq_true.2 ⟨_, List.getElem_mem hlt, q⟩)]
  by_cases b1 : s.chans[i].room < 0
  ·have e := bad (by simp [chanBad, b1])
   simp [hlt', x1, x2, st2, ff, lC, lS2, s2, nt2, q0, q1, b1, e]
   exact (kap.trans k1).trans kap1
  by_cases b2 : 16 < s.chans[i].room
  ·have e := bad (by simp [chanBad, b2])
   simp [hlt', x1, x2, st2, ff, lC, lS2, s2, nt2, q0, q1, b1, b2, e]
   exact (kap.trans k1).trans kap1
  by_cases b3 : s.chans[i].server < -1
  ·have e := bad (by simp [chanBad, b3])
   simp [hlt', x1, x2, st2, ff, lC, lS2, s2, nt2, q0, q1, b1, b2, b3, e]
   exact (kap.trans k1).trans kap1
  by_cases b4 : (s.tasks.length : Int) ≤ s.chans[i].server
  ·have e := bad (by simp [chanBad, b4])
   simp [hlt', x1, x2, st2, ff, lC, lS2, s2, nt2, q0, q1, b1, b2, b3, b4, e]
   exact (kap.trans k1).trans kap1
  ·simp [hlt', x1, x2, st2, ff, lC, lS2, s2, nt2, q0, q1, b1, b2, b3, b4, hw]
   refine ⟨s.chans.length - (i + 1), by omega, i + 1, by omega, rfl, rfl, k1.trans kap1, ?_⟩
   rw [← List.take_append_getElem hlt, List.any_append, hno]
   simp [chanBad, b1, b2, b3, b4]
end Go.Cl
