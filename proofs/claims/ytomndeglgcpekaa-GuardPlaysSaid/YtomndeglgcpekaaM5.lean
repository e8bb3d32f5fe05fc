/-
  Texts laid together: POpV AOp AOpR AOpO ASet.
-/
import Derived.Test.YtomndeglgcpekaaM4
import Derived.Test.YtomndeglgcpekaaS

namespace Go.Cl

structure Case where
  send : Bool
  chan : Int
  v : Int
  deriving DecidableEq, Inhabited

structure OpV where
  kind : Int
  n : Int
  v : Int
  wait : Int
  cases : List Case
  deriving DecidableEq, Inhabited

def Any : Nat → Prop := fun _ => True

end Go.Cl

namespace Go.Cl
open Go
set_option linter.unusedSimpArgs false
set_option linter.unusedVariables false

variable {p : PP}

def caseC : Cod Case where
  n := 3
  rep _ _ c x := c = [.bool x.send, .int .i64 x.chan, .int .i64 x.v]
  len e := by subst e; rfl
  flat e := by subst e; rfl
  mono e _ := e
  keep e _ _ := e
  lt e := e

def opC : Cod OpV where
  n := 5
  rep h P c x := ∃ cv, c = [.int .i64 x.kind, .int .i64 x.n, .int .i64 x.v, .int .i64 x.wait, cv] ∧ Sl caseC h P cv x.cases
  len := by rintro h P c x ⟨cv, rfl, _⟩; rfl
  flat := by rintro h P c x ⟨cv, rfl, s⟩; simp only [List.all_cons, List.all_nil, s.scalar]; rfl
  mono := by rintro h P Q c x ⟨cv, rfl, s⟩ k; exact ⟨cv, rfl, s.mono k⟩
  keep := by rintro h h' P S c x ⟨cv, rfl, s⟩ k hS; exact ⟨cv, rfl, s.keep k hS⟩
  lt := by rintro h P c x ⟨cv, rfl, s⟩; exact ⟨cv, rfl, s.lt⟩

def EqInv (v0 v1 : CV) (α : Type) (a b : List α) (h : Heap) (m : Nat) (e : Env) (h' : Heap) : Prop :=
  ∃ i : Nat, i ≤ a.length ∧ m = a.length - i ∧ e = [(0, v0), (1, v1), (12, .int .i64 a.length), (13, .int .i64 i)] ∧ h' = h ∧ a.take i = b.take i

theorem eqStep {α : Type} {a b : List α} {i : Nat} (h : a.take i = b.take i) (ha : i < a.length) (hb : i < b.length) (he : a[i] = b[i]) : a.take (i + 1) = b.take (i + 1) := by
  rw [← List.take_append_getElem ha, ← List.take_append_getElem hb, h, he]

theorem eqDone {α : Type} {a b : List α} (h : a.take a.length = b.take a.length) (hl : a.length = b.length) : a = b := by
  rw [List.take_length, hl, List.take_length] at h; exact h

theorem eqCase {x y : Case} : eqv (.st [.b, .i, .i]) (.agg [.bool x.send, .int .i64 x.chan, .int .i64 x.v]) (.agg [.bool y.send, .int .i64 y.chan, .int .i64 y.v]) = some (decide (x = y)) := by
  obtain ⟨a, b, c⟩ := x
  obtain ⟨d, e, f⟩ := y
  simp only [eqv, List.length_cons, List.length_nil, and_self, if_true, eqCells, eqKind]
  by_cases h1 : a = d
  · by_cases h2 : b = e
    · by_cases h3 : c = f
      · simp [h1, h2, h3]
      · simp [h1, h2, h3, show (c == f) = false by simpa using h3]
    · simp [h1, h2, show (b == e) = false by simpa using h2]
  · simp [h1, show (a == d) = false by simpa using h1]

end Go.Cl

namespace Go.Cl
open Go
set_option linter.unusedSimpArgs false
set_option linter.unusedVariables false

variable {p : PP}

def EqInvR (a b : List Case) (h : Heap) (m : Nat) (e : Env) (h' : Heap) : Prop :=
  ∃ i : Nat, i ≤ a.length ∧ m = a.length - i ∧ e = [(2, .ptr h.length 0), (3, .ptr (h.length + 1) 0), (5, .int .i64 i)] ∧ ∃ c d, h' = h ++ [.arr c .tight, .arr d .tight] ∧ a.take i = b.take i

/-- two slices looked through side by side -/
def EqInv3 (v0 v1 : CV) (α : Type) (a b : List α) (h : Heap) (m : Nat) (e : Env) (h' : Heap) : Prop :=
  ∃ i : Nat, i ≤ a.length ∧ m = a.length - i ∧ e = [(0, v0), (1, v1), (5, .int .i64 i)] ∧ Keep NoneOf h h' ∧ a.take i = b.take i

def EqInv4 (v1 : CV) (v0 : CV) (a b : List OpV) (h : Heap) (m : Nat) (e : Env) (h' : Heap) : Prop :=
  ∃ i : Nat, i ≤ a.length ∧ m = a.length - i ∧ e = [(1, v1), (2, .fn 51 []), (15, v0), (16, .int .i64 a.length), (17, .int .i64 i)] ∧ Keep NoneOf h h' ∧ a.take i = b.take i

end Go.Cl

namespace Go.Cl
open Go
set_option linter.unusedSimpArgs false
set_option linter.unusedVariables false

variable {p : PP}


def OfInv (h : Heap) (c : List CV) (x : OpV) (m : Nat) (e : Env) (h' : Heap) : Prop :=
  ∃ (i : Nat) (cv : CV), i ≤ x.cases.length ∧ m = x.cases.length - i ∧ e = [(1, .ptr h.length 0), (2, .ptr (h.length + 1) 0), (3, .ptr (h.length + 2) 0), (4, .int .i64 i)] ∧ Keep NoneOf h h' ∧
    h'[h.length]? = some (.arr c .tight) ∧ h'[h.length + 1]? = some (.arr [.int .i64 0, .int .i64 0, .int .i64 0, .int .i64 0, .nils] .tight) ∧
    h'[h.length + 2]? = some (.arr [.int .i64 x.kind, .int .i64 x.n, .int .i64 x.v, .int .i64 x.wait, cv] .tight) ∧ OwnL caseC h' NoneOf cv (x.cases.take i) ∧ ∀ b, cv.blk = some b → h.length + 2 < b

theorem opOf_spec {K : Nat} {h : Heap} {c : List CV} {x : OpV} {P : Nat → Prop} (hp : p.Pg K = some S.f32) (hq : p.pr K = none) (r0 : opC.rep h P c x) (hb : x.cases.length ≤ big) :
    WF p K [.agg c] h fun r h' => Keep NoneOf h h' ∧ ∃ d, r = .agg d ∧ opC.rep h' (From h) d x := by
  obtain ⟨cv, rfl, s0⟩ := r0
  refine WF_of hp hq ?_
  show W p S.b32 _ _ (retQ [.cell (some 5) 2] _)
  unfold S.b32
  obtain ⟨a1, a2, a3, a4, a5⟩ := x
  simp only at s0 hb
  have l0 : ∀ (o1 o2 : Obj) o, loadAt (h ++ [.arr [.int .i64 a1, .int .i64 a2, .int .i64 a3, .int .i64 a4, cv] .tight, o1]) h.length o none = ([.int .i64 a1, .int .i64 a2, .int .i64 a3, .int .i64 a4, cv] : List CV)[o]? := fun o1 o2 o => two0 o
  have st : ∀ (o1 o2 : Obj) (z row : List CV), row.length = z.length → row.all CV.scalar = true → storeAt (h ++ [o1, o2, .arr z .tight]) (h.length + 2) 0 row = some (h ++ [o1, o2, .arr row .tight]) := by
    intro o1 o2 z row q1 q2
    have := store_new (h := h ++ [o1, o2]) q1 q2
    simpa using this
  simp [CV.cells, two0, fillC, splice, fits, st, CV.scalar]
  refine W_loop (OfInv h [.int .i64 a1, .int .i64 a2, .int .i64 a3, .int .i64 a4, cv] ⟨a1, a2, a3, a4, a5⟩) ?_ a5.length ⟨0, .nils, Nat.zero_le _, rfl, rfl, Keep.app _ _ _, by simp, by simp, by simp, by simpa using OwnL.nil, by simp [CV.blk]⟩
  rintro m e h1 ⟨i, ov, hi, rfl, rfl, k1, g0, g1, g2, ow, hov⟩
  simp only at hi g2 ow
  have s1 := s0.on k1
  have n1 := s1.len (by decide)
  have l0 := ld g0
  have l2 := ld g2
  by_cases hie : i = a5.length
  · subst hie
    rw [List.take_length] at ow
    have ln := ldw g2 (n := 5) rfl
    have hsc := ow.scalar
    have s2 := sto g1 (vs := [.int .i64 a1, .int .i64 a2, .int .i64 a3, .int .i64 a4, ov]) rfl (by simp only [List.all_cons, List.all_nil, hsc]; rfl)
    have hlt := lt_of_get g1
    have ke : Keep (fun b => b = h.length + 1) h1 (h1.set (h.length + 1) (.arr [.int .i64 a1, .int .i64 a2, .int .i64 a3, .int .i64 a4, ov] .tight)) := Keep.set _ _ rfl
    have hl := ldw (get_set_self (o := .arr [.int .i64 a1, .int .i64 a2, .int .i64 a3, .int .i64 a4, ov] .tight) hlt) (n := 5) rfl
    simp [l0, n1, ln, fits, CV.cells, s2, hl]
    refine ⟨k1.then ke fun b hb e => by omega, ov, rfl, ?_⟩
    have ow2 := ow.keep ke (fun b hb e => by have := hov b hb; omega) fun _ e => e.elim
    exact ow2.sl.mono fun b hb => by
      rcases hb with hb | hb
      · exact hb.elim
      · have := hov b hb; simp only [From]; omega
  · have hlt : i < a5.length := by omega
    have hlt' : (i : Int) < a5.length := by omega
    obtain ⟨bb, o, row, x1, x2, x3, x4⟩ := s1.row (k := .i64) (by decide) hlt
    simp only [caseC] at x1 x4
    subst x4
    have y0 := x3 0 (by decide)
    have y1 := x3 1 (by decide)
    have y2 := x3 2 (by decide)
    simp at y0 y1 y2
    have hw : IntKind.i64.wrap ((i : Int) + 1) = ((i + 1 : Nat) : Int) := by
      simp [big] at hb
      rw [w64 (by omega) (by omega)]; omega
    have kap : ∀ g, Keep NoneOf h1 (h1 ++ g) := fun g => Keep.app _ _ _
    simp [l0, l2, n1, hlt', x1, y0, y1, y2, fillC, splice, spread, cellsAt]
    refine OV_push (e := caseC) (x := a5[i]) (ow.on (kap _)) rfl (fun _ e => e.elim) (by simp; omega) (by decide) ?_
    intro v' h2 ow2 k2 hb2
    have hl1 := k1.len
    have hgt : ∀ b, v'.blk = some b → h.length + 2 < b := by
      intro b hb
      have := lt_of_get g2
      rcases hb2 b hb with q | q
      · exact hov b q
      · simp at q; omega
    have g2' := k2.at (get_app (g := [.arr [.bool a5[i].send, .int .i64 a5[i].chan, .int .i64 a5[i].v] .tight]) g2) (fun e => by have := hov _ e; omega)
    have g1' := k2.at (get_app (g := [.arr [.bool a5[i].send, .int .i64 a5[i].chan, .int .i64 a5[i].v] .tight]) g1) (fun e => by have := hov _ e; omega)
    have g0' := k2.at (get_app (g := [.arr [.bool a5[i].send, .int .i64 a5[i].chan, .int .i64 a5[i].v] .tight]) g0) (fun e => by have := hov _ e; omega)
    have s3 := sto1 g2' (o := 4) (v := v') (by simp) ow2.scalar
    simp [CV.cells_scalar ow2.scalar, fits_scalar ow2.scalar, s3, hw]
    have ke : Keep (fun b => b = h.length + 2) h2 (h2.set (h.length + 2) (.arr [.int .i64 a1, .int .i64 a2, .int .i64 a3, .int .i64 a4, v'] .tight)) := Keep.set _ _ rfl
    refine ⟨a5.length - (i + 1), by omega, i + 1, v', by simp only; omega, rfl, rfl, ((k1.trans (kap _)).then k2 fun b hb e => by have := hov b e; omega).then ke fun b hb e => by omega, ke.at g0' (by omega), ke.at g1' (by omega), get_set_self (lt_of_get g2'), ?_, hgt⟩
    have := ow2.keep ke (fun b hb e => by have := hgt b hb; omega) fun _ e => e.elim
    simpa [List.take_append_getElem hlt] using this

def AllInv (v0 : CV) (l : List OpV) (h : Heap) (m : Nat) (e : Env) (h' : Heap) : Prop :=
  ∃ (i : Nat) (ov : CV), i ≤ l.length ∧ m = l.length - i ∧ e = [(0, v0), (3, ov), (4, .int .i64 i)] ∧ Keep NoneOf h h' ∧ OwnN opC h.length h' ov (l.take i) ∧ ∀ b, ov.blk = some b → h.length ≤ b

theorem opOfAll_body {h : Heap} {v0 : CV} {l : List OpV} {P : Nat → Prop} {K : CV → Heap → Prop} (h32 : p.Pg 32 = some S.f32) (q32 : p.pr 32 = none) (s0 : Sl opC h P v0 l) (hb : l.length ≤ big) (hc : ∀ x ∈ l, x.cases.length ≤ big)
    (kk : ∀ r h', Keep NoneOf h h' → OwnN opC h.length h' r l → (∀ b, r.blk = some b → h.length ≤ b) → K r h') : W p S.b53 [(0, v0)] h (retQ [.t 2] K) := by
  unfold S.b53
  simp
  refine W_loop (AllInv v0 l h) ?_ l.length ⟨0, .nils, by omega, by omega, rfl, Keep.refl _ _, OwnN.nil, by simp [CV.blk]⟩
  rintro m e h1 ⟨i, ov, hi, rfl, rfl, k1, ow, hov⟩
  have s1 := s0.on k1
  have n1 := s1.len (by decide)
  by_cases hie : i = l.length
  · subst hie
    rw [List.take_length] at ow
    simp [n1]
    exact kk _ _ k1 ow hov
  · have hlt : i < l.length := by omega
    have hlt' : (i : Int) < l.length := by omega
    obtain ⟨bb, o, row, x1, x2, x3, x4⟩ := s1.row (k := .i64) (by decide) hlt
    simp only [opC] at x1 x2
    have hw : IntKind.i64.wrap ((i : Int) + 1) = ((i + 1 : Nat) : Int) := by
      simp [big] at hb
      rw [w64 (by omega) (by omega)]; omega
    simp [n1, hlt', x1, x2]
    refine (opOf_spec h32 q32 x4 (hc _ (List.getElem_mem hlt))).mono ?_
    rintro r h2 ⟨k2, d, rfl, r2⟩
    have cl := opC.len r2
    simp only [opC] at cl
    have kap : ∀ g, Keep NoneOf h2 (h2 ++ g) := fun g => Keep.app _ _ _
    have ow2 := (ow.on k2).on (kap [.arr d .tight])
    simp [fillC, splice, cl, spread, cellsAt]
    rw [show List.take 5 d = d from List.take_of_length_le (by omega)]
    refine OV_pushN (e := opC) (x := l[i]) ow2 (opC.on r2 (kap _)) (fun b hb hlt => ?_) (by simp; omega) (by decide) ?_
    · have := k1.len
      have hbb : h1.length ≤ b := hb
      exact ⟨by omega, fun hv => by have := ow.blk b hv; omega⟩
    · intro v' h3 o3 k3 hb3
      simp [hw]
      refine ⟨l.length - (i + 1), by omega, i + 1, v', by omega, rfl, rfl, ((k1.trans k2).trans (kap _)).then k3 fun b hb e => by have := hov b e; omega, by simpa [List.take_append_getElem hlt] using o3, fun b hb => ?_⟩
      rcases hb3 b hb with q | q
      · exact hov b q
      · have := (k1.trans k2).len; simp at q; omega

/-- a list of ops, turned: the same ops, all new -/
theorem opOfAll_spec {h : Heap} {v0 : CV} {l : List OpV} {P : Nat → Prop} (hpg : p.Pg = S.pg) (q53 : p.pr 53 = none) (q32 : p.pr 32 = none) (s0 : Sl opC h P v0 l) (hb : l.length ≤ big) (hc : ∀ x ∈ l, x.cases.length ≤ big) :
    WF p 53 [v0] h fun r h' => Keep NoneOf h h' ∧ Sl opC h' (From h) r l :=
  WF_of (by rw [hpg]; exact S.pg53) q53 (by exact opOfAll_body (by rw [hpg]; exact S.pg32) q32 s0 hb hc fun r h' k o hr => ⟨k, o.sl hr⟩)

/-- few ops, with few cases -/
def FewP (l : List OpV) : Bool := decide (l.length ≤ 60) && l.all fun x => decide (x.cases.length ≤ 20)

def FewInv (v0 : CV) (l : List OpV) (h : Heap) (m : Nat) (e : Env) (h' : Heap) : Prop :=
  ∃ i : Nat, i ≤ l.length ∧ m = l.length - i ∧ e = [(0, v0), (3, .int .i64 i)] ∧ Keep NoneOf h h' ∧ ∀ x ∈ l.take i, x.cases.length ≤ 20

end Go.Cl

namespace Go.Cl
open Go
set_option linter.unusedSimpArgs false
set_option linter.unusedVariables false
set_option maxHeartbeats 2000000

variable {p : PP}

structure ChanV where
  room : Int
  server : Int
  deriving DecidableEq, Inhabited

structure TaskV where
  name : List UInt8
  per : Int
  dl : Int
  bud : Int
  prog : List OpV
  deriving DecidableEq, Inhabited

structure SetV where
  locks : Int
  chans : List ChanV
  tasks : List TaskV
  deriving DecidableEq, Inhabited

def chL (x : ChanV) : List CV := [.int .i64 x.room, .int .i64 x.server]

def chanC : Cod ChanV where
  n := 2
  rep _ _ c x := c = chL x
  len e := by subst e; rfl
  flat e := by subst e; rfl
  mono e _ := e
  keep e _ _ := e
  lt e := e

def tkL (x : TaskV) (pv : CV) : List CV := [.str x.name, .int .i64 x.per, .int .i64 x.dl, .int .i64 x.bud, pv]

def taskC : Cod TaskV where
  n := 5
  rep h P c x := ∃ pv, c = tkL x pv ∧ Sl opC h P pv x.prog
  len := by rintro h P c x ⟨pv, rfl, _⟩; rfl
  flat := by rintro h P c x ⟨pv, rfl, s⟩; simp only [tkL, List.all_cons, List.all_nil, s.scalar]; rfl
  mono := by rintro h P Q c x ⟨pv, rfl, s⟩ k; exact ⟨pv, rfl, s.mono k⟩
  keep := by rintro h h' P S c x ⟨pv, rfl, s⟩ k hS; exact ⟨pv, rfl, s.keep k hS⟩
  lt := by rintro h P c x ⟨pv, rfl, s⟩; exact ⟨pv, rfl, s.lt⟩

def setC : Cod SetV where
  n := 3
  rep h P c x := ∃ cv tv, c = [.int .i64 x.locks, cv, tv] ∧ Sl chanC h P cv x.chans ∧ Sl taskC h P tv x.tasks
  len := by rintro h P c x ⟨cv, tv, rfl, _⟩; rfl
  flat := by rintro h P c x ⟨cv, tv, rfl, s, t⟩; simp only [List.all_cons, List.all_nil, s.scalar, t.scalar]; rfl
  mono := by rintro h P Q c x ⟨cv, tv, rfl, s, t⟩ k; exact ⟨cv, tv, rfl, s.mono k, t.mono k⟩
  keep := by rintro h h' P S c x ⟨cv, tv, rfl, s, t⟩ k hS; exact ⟨cv, tv, rfl, s.keep k hS, t.keep k hS⟩
  lt := by rintro h P c x ⟨cv, tv, rfl, s, t⟩; exact ⟨cv, tv, rfl, s.lt, t.lt⟩

/-- not too much of anything -/
structure SetV.Fit (x : SetV) : Prop where
  c : x.chans.length ≤ 1000000
  t : x.tasks.length ≤ 1000000
  p : ∀ t ∈ x.tasks, t.prog.length ≤ 1000000 ∧ ∀ o ∈ t.prog, o.cases.length ≤ 1000000

/-- while a set is turned -/
structure SoH (h : Heap) (c : List CV) (x : SetV) (ov tv : CV) (i j : Nat) (h' : Heap) : Prop where
  k : Keep NoneOf h h'
  g0 : h'[h.length]? = some (.arr c .tight)
  g1 : h'[h.length + 1]? = some (.arr [.int .i64 0, .nils, .nils] .tight)
  g2 : h'[h.length + 2]? = some (.arr [.int .i64 x.locks, ov, tv] .tight)
  oc : OwnL chanC h' NoneOf ov (x.chans.take i)
  ot : OwnN taskC (h.length + 3) h' tv (x.tasks.take j)
  bo : ∀ b, ov.blk = some b → h.length + 3 ≤ b
  bt : ∀ b, tv.blk = some b → h.length + 3 ≤ b
  ap : ∀ b, ov.blk = some b → tv.blk ≠ some b

def SoI (h : Heap) (c : List CV) (x : SetV) (m : Nat) (e : Env) (h' : Heap) : Prop :=
  ∃ (i : Nat) (ov : CV), i ≤ x.chans.length ∧ m = x.chans.length - i ∧ e = [(1, .ptr h.length 0), (2, .ptr (h.length + 1) 0), (3, .ptr (h.length + 2) 0), (4, .int .i64 i)] ∧ SoH h c x ov .nils i 0 h'

def SoJ (h : Heap) (c : List CV) (x : SetV) (m : Nat) (e : Env) (h' : Heap) : Prop :=
  ∃ (j : Nat) (ov tv : CV), j ≤ x.tasks.length ∧ m = x.tasks.length - j ∧ e = [(1, .ptr h.length 0), (2, .ptr (h.length + 1) 0), (3, .ptr (h.length + 2) 0), (5, .int .i64 j)] ∧ SoH h c x ov tv x.chans.length j h'

theorem OwnN.nest {α : Type} {e : Cod α} {B : Nat} {h h' : Heap} {v : CV} {l : List α} (s : OwnN e B h v l) (k : Keep NoneOf h h') : OwnN e B h' v l := s.on k

/- OF -/
theorem setOf_spec (hpg : p.Pg = S.pg) (q10 : p.pr 10 = none) (q53 : p.pr 53 = none) (q32 : p.pr 32 = none) {h : Heap} {c : List CV} {x : SetV} {P : Nat → Prop} (r0 : setC.rep h P c x) (hx : x.Fit) :
    WF p 10 [.agg c] h fun r h' => Keep NoneOf h h' ∧ ∃ d, r = .agg d ∧ setC.rep h' (From h) d x := by
  obtain ⟨cv, tv0, hC, sc, stk⟩ := r0
  refine WF_of (by rw [hpg]; exact S.pg10) q10 ?_
  show W p S.b10 _ _ (retQ [.cell (some 3) 2] _)
  unfold S.b10
  have c0 : c[0]? = some (.int .i64 x.locks) := by subst hC; rfl
  have c1 : c[1]? = some cv := by subst hC; rfl
  have c2 : c[2]? = some tv0 := by subst hC; rfl
  clear hC
  have ca : ∀ l, (CV.agg l).cells = l := fun _ => rfl
  have l0 : ∀ (o1 : Obj) o, loadAt (h ++ [.arr c .tight, o1]) h.length o none = c[o]? := fun o1 o => two0 o
  have f1 : fillC [.int .i64 0, .nils, .nils] [(0, 1, .int .i64 x.locks)] = some [.int .i64 x.locks, .nils, .nils] := rfl
  have st : storeAt (h ++ [.arr c .tight, .arr [.int .i64 0, .nils, .nils] .tight, .arr [.int .i64 0, .nils, .nils] .tight]) (h.length + 2) 0 [.int .i64 x.locks, .nils, .nils] = some (h ++ [.arr c .tight, .arr [.int .i64 0, .nils, .nils] .tight, .arr [.int .i64 x.locks, .nils, .nils] .tight]) := by
    have := store_new (h := h ++ [.arr c .tight, .arr [.int .i64 0, .nils, .nils] .tight]) (row := [.int .i64 x.locks, .nils, .nils]) (z := [.int .i64 0, .nils, .nils]) rfl rfl
    simpa using this
  simp [ca, l0, c0, f1, st]
  refine W_loop (SoI h c x) ?_ x.chans.length ⟨0, .nils, by omega, by omega, rfl, Keep.app _ _ _, by simp, by simp, by simp, by simpa using OwnL.nil, by simpa using OwnN.nil, by simp [CV.blk], by simp [CV.blk], by simp [CV.blk]⟩
  rintro m e H ⟨i, ov, hi, rfl, rfl, q⟩
  have hfc := hx.c
  have hft := hx.t
  have l0 := ld q.g0
  have l2 := ld q.g2
  have s0 := sc.on q.k
  have n0 := s0.len (by decide)
  have lO : ∀ v w : CV, ([.int .i64 x.locks, v, w] : List CV).length = 3 := fun _ _ => rfl
  by_cases hie : i = x.chans.length
  · subst hie
    simp [l0, c1, n0]
    refine W_loop (SoJ h c x) ?_ x.tasks.length ⟨0, ov, .nils, by omega, by omega, rfl, q⟩
    clear q l0 l2 s0 n0 hi
    rintro m e H ⟨j, ov, tv, hj, rfl, rfl, q⟩
    have l0 := ld q.g0
    have l2 := ld q.g2
    have s0 := stk.on q.k
    have n0 := s0.len (by decide)
    by_cases hje : j = x.tasks.length
    · subst hje
      have w2 := ldw q.g2 (lO ov tv)
      have hso := q.oc.scalar
      have hst := q.ot.scalar
      have s1 := sto q.g1 (vs := [.int .i64 x.locks, ov, tv]) rfl (by simp only [List.all_cons, List.all_nil, hso, hst]; rfl)
      have ke : Keep (fun b => b = h.length + 1) H (H.set (h.length + 1) (.arr [.int .i64 x.locks, ov, tv] .tight)) := Keep.set _ _ rfl
      have w1 := ldw (get_set_self (o := .arr [.int .i64 x.locks, ov, tv] .tight) (lt_of_get q.g1)) (lO ov tv)
      simp [l0, c2, n0, w2, ca, s1, w1]
      refine ⟨q.k.then ke fun b hb e => by omega, ov, tv, rfl, ?_, ?_⟩
      · have := (q.oc.keep ke (fun b hb e => by have := q.bo b hb; omega) fun _ e => e.elim).sl
        rw [List.take_length] at this
        exact this.mono fun b hb => by
          rcases hb with hb | hb
          · exact hb.elim
          · have := q.bo b hb; simp only [From]; omega
      · have := (OwnN.keep q.ot ke (fun b hb e => by have := q.bt b hb; omega) fun b hb _ _ e => by omega).sl q.bt
        rw [List.take_length] at this
        exact this.mono fun b hb => by simp only [From]; omega
    · have hlt : j < x.tasks.length := by omega
      have hlt' : (j : Int) < x.tasks.length := by omega
      obtain ⟨bb, o, row, x1, x2, x3, x4⟩ := s0.row (k := .i64) (by decide) hlt
      have hrl : row.length = 5 := taskC.len x4
      have hrf := taskC.flat x4
      obtain ⟨pv, hrow, sp⟩ := x4
      simp only [taskC] at x1 x2
      have hw : IntKind.i64.wrap ((j : Int) + 1) = ((j + 1 : Nat) : Int) := by rw [w64 (by omega) (by omega)]; omega
      have hfit : fits (some 5) (.agg row) = true := by rw [hrow]; rfl
      have st6 := store_new (h := H) (row := row) (z := [.str [], .int .i64 0, .int .i64 0, .int .i64 0, .nils]) (by rw [hrl]; rfl) hrf
      have kap : Keep NoneOf H (H ++ [.arr row .tight]) := Keep.app _ _ _
      have g6 : (H ++ [Obj.arr row .tight])[H.length]? = some (.arr row .tight) := by simp
      have l6 := ld g6
      have l2' := ld (kap.at q.g2 id)
      have r0 : row[0]? = some (.str x.tasks[j].name) := by rw [hrow]; rfl
      have r1 : row[1]? = some (.int .i64 x.tasks[j].per) := by rw [hrow]; rfl
      have r2 : row[2]? = some (.int .i64 x.tasks[j].dl) := by rw [hrow]; rfl
      have r3 : row[3]? = some (.int .i64 x.tasks[j].bud) := by rw [hrow]; rfl
      have r4 : row[4]? = some pv := by rw [hrow]; rfl
      have hpf := hx.p x.tasks[j] (List.getElem_mem hlt)
      simp [l0, c2, n0, hlt, hlt', x1, x2, ca, hfit, st6, l6, l2', r0, r1, r2, r3, r4]
      refine WO_re_n ?_
      simp
      refine (opOfAll_spec hpg q53 q32 (sp.on kap) (by simp [big]; omega) (fun o ho => by have := hpf.2 o ho; simp [big]; omega)).mono ?_
      rintro r H2 ⟨k2, so⟩
      have l62 := ld (k2.at g6 id)
      have g22 := k2.at (kap.at q.g2 id) id
      have l22 := ld g22
      refine ⟨fun c => by simp [recheckB, wanted, Env.get, cls, evOp, Opd.ev, withH, CV.eqb, l62, l22, r0, r1, r2, r3, r4, CV.eqb_refl], ?_⟩
      have hrs := so.scalar
      have f2 : fillC [.str [], .int .i64 0, .int .i64 0, .int .i64 0, .nils] [(0, 1, .str x.tasks[j].name), (1, 1, .int .i64 x.tasks[j].per), (2, 1, .int .i64 x.tasks[j].dl), (3, 1, .int .i64 x.tasks[j].bud), (4, 1, r)] = some (tkL x.tasks[j] r) := by
        simp [fillC, splice, CV.cells_scalar hrs, tkL]
      have f3 : fillC [.str [], .int .i64 0, .int .i64 0, .int .i64 0, .nils] [(0, 5, .agg (tkL x.tasks[j] r))] = some (tkL x.tasks[j] r) := rfl
      have htl : (tkL x.tasks[j] r).length = 5 := rfl
      have htt : List.take 5 (tkL x.tasks[j] r) = tkL x.tasks[j] r := rfl
      simp [f2, f3, spread, cellsAt, htl, htt]
      have kap2 : Keep NoneOf H2 (H2 ++ [.arr (tkL x.tasks[j] r) .tight]) := Keep.app _ _ _
      have K12 := (kap.trans k2).trans kap2
      have ot2 := OwnN.on q.ot K12
      have hHl : H.length < H2.length := lt_of_get (k2.at g6 id)
      have rt : taskC.rep (H2 ++ [.arr (tkL x.tasks[j] r) .tight]) (From (H ++ [.arr row .tight])) (tkL x.tasks[j] r) x.tasks[j] := ⟨r, rfl, so.on kap2⟩
      refine OV_pushN (e := taskC) (x := x.tasks[j]) ot2 rt (fun b hb hlt => ?_) (by simp [big]; omega) (by decide) ?_
      · have hb : (H ++ [Obj.arr row .tight]).length ≤ b := hb
        have hlg := lt_of_get q.g2
        simp at hb
        exact ⟨by omega, fun hv => by have := OwnN.blk q.ot b hv; omega⟩
      · intro tv' H3 o3 k3 hb3
        have hbt : ∀ b, tv'.blk = some b → h.length + 3 ≤ b := fun b hb => by
          rcases hb3 b hb with hq | hq
          · exact q.bt b hq
          · have := lt_of_get q.g2
            simp at hq
            omega
        have g23 := k3.at (kap2.at g22 id) (fun hv => by have := q.bt _ hv; omega)
        have g03 := k3.at (K12.at q.g0 id) (fun hv => by have := q.bt _ hv; omega)
        have g13 := k3.at (K12.at q.g1 id) (fun hv => by have := q.bt _ hv; omega)
        have hsc := OwnN.scalar o3
        have s3 := sto1 g23 (o := 2) (v := tv') (by rw [lO]; omega) hsc
        have hset : ([.int .i64 x.locks, ov, tv] : List CV).set 2 tv' = [.int .i64 x.locks, ov, tv'] := rfl
        rw [hset] at s3
        have fs := fits_scalar hsc
        have cs := CV.cells_scalar hsc
        have ke : Keep (fun b => b = h.length + 2) H3 (H3.set (h.length + 2) (.arr [.int .i64 x.locks, ov, tv'] .tight)) := Keep.set _ _ rfl
        simp [fs, cs, s3, hw]
        refine ⟨_, by omega, j + 1, ov, tv', by omega, rfl, rfl, ?_⟩
        have hov3 : ∀ b, tv'.blk = some b → ov.blk ≠ some b := fun b hb ho => by
          rcases hb3 b hb with hq | hq
          · exact q.ap b ho hq
          · have := q.oc.blk b ho
            have h2 := K12.len
            simp at hq h2
            omega
        refine ⟨((q.k.trans K12).then k3 fun b hb e => by have := q.bt b e; omega).then ke fun b hb e => by omega, ke.at g03 (by omega), ke.at g13 (by omega), get_set_self (lt_of_get g23), ?_, ?_, q.bo, hbt, fun b ho ht => hov3 b ht ho⟩
        · exact ((q.oc.on K12).keep k3 (fun b hb hv => q.ap b hb hv) (fun _ hb => hb.elim)).keep ke (fun b hb e => by have := q.bo b hb; omega) (fun _ hb => hb.elim)
        · have := OwnN.keep o3 ke (fun b hb e => by have := hbt b hb; omega) (fun b hb _ _ e => by omega)
          rwa [List.take_append_getElem hlt] at this
  · have hlt : i < x.chans.length := by omega
    have hlt' : (i : Int) < x.chans.length := by omega
    obtain ⟨bb, o, row, x1, x2, x3, x4⟩ := s0.row (k := .i64) (by decide) hlt
    have x4 : row = chL x.chans[i] := x4
    simp only [chanC] at x1 x2 x3
    have y0 := x3 0 (by decide)
    have y1 := x3 1 (by decide)
    rw [x4] at y0 y1
    simp [chL] at y0 y1
    have hw : IntKind.i64.wrap ((i : Int) + 1) = ((i + 1 : Nat) : Int) := by rw [w64 (by omega) (by omega)]; omega
    have f2 : fillC [.int .i64 0, .int .i64 0] [(0, 1, .int .i64 x.chans[i].room), (1, 1, .int .i64 x.chans[i].server)] = some (chL x.chans[i]) := rfl
    have f3 : fillC [.int .i64 0, .int .i64 0] [(0, 2, .agg (chL x.chans[i]))] = some (chL x.chans[i]) := rfl
    have htl : (chL x.chans[i]).length = 2 := rfl
    have htt : List.take 2 (chL x.chans[i]) = chL x.chans[i] := rfl
    have kap : Keep NoneOf H (H ++ [.arr (chL x.chans[i]) .tight]) := Keep.app _ _ _
    simp [l0, c1, n0, l2, hlt, hlt', x1, y0, y1, f2, f3, spread, cellsAt, htl, htt]
    refine OV_push (e := chanC) (x := x.chans[i]) (q.oc.on kap) rfl (fun _ hb => hb.elim) (by simp [big]; omega) (by decide) ?_
    intro ov' H2 o2 k2 hb2
    have hbo : ∀ b, ov'.blk = some b → h.length + 3 ≤ b := fun b hb => by
      rcases hb2 b hb with hq | hq
      · exact q.bo b hq
      · have := lt_of_get q.g2
        simp at hq
        omega
    have g22 := k2.at (kap.at q.g2 id) (fun hv => by have := q.bo _ hv; omega)
    have g02 := k2.at (kap.at q.g0 id) (fun hv => by have := q.bo _ hv; omega)
    have g12 := k2.at (kap.at q.g1 id) (fun hv => by have := q.bo _ hv; omega)
    have hsc := o2.scalar
    have s3 := sto1 g22 (o := 1) (v := ov') (by rw [lO]; omega) hsc
    have hset : ([.int .i64 x.locks, ov, .nils] : List CV).set 1 ov' = [.int .i64 x.locks, ov', .nils] := rfl
    rw [hset] at s3
    have fs := fits_scalar hsc
    have cs := CV.cells_scalar hsc
    have ke : Keep (fun b => b = h.length + 2) H2 (H2.set (h.length + 2) (.arr [.int .i64 x.locks, ov', .nils] .tight)) := Keep.set _ _ rfl
    simp [fs, cs, s3, hw]
    refine ⟨_, by omega, i + 1, ov', by omega, rfl, rfl, ?_⟩
    refine ⟨((q.k.trans kap).then k2 fun b hb e => by have := q.bo b e; omega).then ke fun b hb e => by omega, ke.at g02 (by omega), ke.at g12 (by omega), get_set_self (lt_of_get g22), ?_, by simpa using OwnN.nil, hbo, by simp [CV.blk], by simp [CV.blk]⟩
    have := o2.keep ke (fun b hb e => by have := hbo b hb; omega) (fun _ hb => hb.elim)
    rwa [List.take_append_getElem hlt] at this
/- END -/

end Go.Cl
