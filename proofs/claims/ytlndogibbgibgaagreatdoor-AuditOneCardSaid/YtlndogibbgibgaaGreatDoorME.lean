/-
  Texts laid together: AJob AJobT AJobB AJobN AJobX.
-/
import Derived.Test.YtlndogibbgibgaaGreatDoorM8
import Derived.Test.YtlndogibbgibgaaGreatDoorMD
import Derived.Test.YtlndogibbgibgaaGreatDoorM7
namespace Go.Cl
open Go
set_option linter.unusedSimpArgs false
set_option linter.unusedVariables false
variable {p : PP}
structure JobV where
 live : Bool
 flat : List OpV
 pc : Int
 left : Int
 used : Int
 most : Int
 since : Int
 seq : Int
 waits : Bool
 held : List Int
 deriving DecidableEq, Inhabited
def jobCells (x : JobV) (fv hv : CV) : List CV := [.bool x.live, fv, .int .i64 x.pc, .int .i64 x.left, .int .i64 x.used, .int .i64 x.most, .int .i64 x.since, .int .i64 x.seq, .bool x.waits, hv]
theorem jobCells_flat {x : JobV} {fv hv : CV} (h1 : fv.scalar = true) (h2 : hv.scalar = true) : (jobCells x fv hv).all CV.scalar = true := by
 simp only [jobCells, List.all_cons, List.all_nil, h1, h2]; rfl
def jobC : Cod JobV where
 n := 10
 rep h P c x := ∃ fv hv, c = jobCells x fv hv ∧ Sl opC h P fv x.flat ∧ Sl (.int .i64) h P hv x.held
 len := by rintro h P c x ⟨fv, hv, rfl, _⟩; rfl
 flat := by rintro h P c x ⟨fv, hv, rfl, s, t⟩; exact jobCells_flat s.scalar t.scalar
 mono := by rintro h P Q c x ⟨fv, hv, rfl, s, t⟩ k; exact ⟨fv, hv, rfl, s.mono k, t.mono k⟩
 keep := by rintro h h' P S c x ⟨fv, hv, rfl, s, t⟩ k hS; exact ⟨fv, hv, rfl, s.keep k hS, t.keep k hS⟩
 lt := by rintro h P c x ⟨fv, hv, rfl, s, t⟩; exact ⟨fv, hv, rfl, s.lt, t.lt⟩
def noOp : OpV := ⟨0, 0, 0, 0, []⟩
def nowF (x : JobV) : OpV × Bool := if x.live = true ∧ 0 ≤ x.pc ∧ x.pc < x.flat.length then (x.flat.getD x.pc.toNat noOp, true) else (noOp, false)
def beginF (x : JobV) : JobV × Bool :=
 if (nowF x).2 = true ∧ (nowF x).1.kind = 1 ∧ x.left = 0 ∧ x.used < x.most then ({ x with left := (nowF x).1.n }, true) else (x, false)
def tickF (x : JobV) : JobV × Bool :=
 if x.live = true ∧ x.left ≠ 0 then
  if IntKind.i64.wrap (x.left - 1) = 0 then ({ x with left := 0, used := IntKind.i64.wrap (x.used + 1), pc := IntKind.i64.wrap (x.pc + 1) }, false)
  else ({ x with left := IntKind.i64.wrap (x.left - 1), used := IntKind.i64.wrap (x.used + 1) }, decide (IntKind.i64.wrap (x.used + 1) = x.most))
 else (x, false)
def stepF (x : JobV) : JobV := { x with pc := IntKind.i64.wrap (x.pc + 1), left := 0, waits := false }
def takeF (x : JobV) (k : Int) : JobV := { x with held := x.held ++ [k] }
def giveF (x : JobV) (k : Int) : JobV := { x with held := x.held.filter fun y => decide (y ≠ k) }
def Or (P : Nat → Prop) (h : Heap) : Nat → Prop := fun b => P b ∨ h.length ≤ b
theorem Cod.or {α : Type} (e : Cod α) {h h' : Heap} {P : Nat → Prop} {c : List CV} {x : α} (r : e.rep h P c x) (k : Keep NoneOf h h') : e.rep h' (Or P h) c x := e.mono (e.on r k) fun _ hb => .inl hb
theorem now_spec {K : Nat} {h : Heap} {c : List CV} {x : JobV} {P : Nat → Prop} (hp : p.Pg K = some S.f30) (hq : p.pr K = none) (r0 : jobC.rep h P c x) :
  WF p K [.agg c] h fun r h' => Keep NoneOf h h' ∧ ∃ d, r = .tup [.agg d, .bool (nowF x).2] ∧ opC.rep h' P d (nowF x).1 := by
 obtain ⟨fv, hv, rfl, s0, t0⟩ := r0
 refine WF_of hp hq ?_
 show W p S.b30 _ _ (retQ [.cell (some 5) 2, .t 3] _)
 unfold S.b30
 obtain ⟨live, flat, pc, left, used, most, since, seq, waits, held⟩ := x
 simp only [jobCells] at s0 t0 ⊢
 have kap : ∀ g, Keep NoneOf h (h ++ g) := fun g => Keep.app _ _ _
 have zr : ∀ h', opC.rep h' P [.int .i64 0, .int .i64 0, .int .i64 0, .int .i64 0, .nils] noOp := fun h' => ⟨.nils, rfl, Sl.nil⟩
 have s0' := s0.on (kap [.arr [.bool live, fv, .int .i64 pc, .int .i64 left, .int .i64 used, .int .i64 most, .int .i64 since, .int .i64 seq, .bool waits, hv] .tight, .arr [.int .i64 0, .int .i64 0, .int .i64 0, .int .i64 0, .nils] .tight])
 have nf := s0'.len (by decide)
 have st : ∀ (o1 : Obj) (row : List CV), row.length = 5 → row.all CV.scalar = true → storeAt (h ++ [o1, .arr [.int .i64 0, .int .i64 0, .int .i64 0, .int .i64 0, .nils] .tight]) (h.length + 1) 0 row = some (h ++ [o1, .arr row .tight]) := fun o1 row q1 q2 => store_new2 (by simpa using q1) q2
 cases live with
 | false =>
   have : nowF ⟨false, flat, pc, left, used, most, since, seq, waits, held⟩ = (noOp, false) := by simp [nowF]
   rw [this]
   simp [two0, fillC, st, two1n, result]
   exact ⟨kap _, zr _⟩
 | true =>
   by_cases h1 : pc < 0
   ·have : nowF ⟨true, flat, pc, left, used, most, since, seq, waits, held⟩ = (noOp, false) := by simp [nowF, h1]; omega
    rw [this]
    simp [two0, fillC, st, two1n, result, h1]
    exact ⟨kap _, zr _⟩
   ·by_cases h2 : (flat.length : Int) ≤ pc
    ·have : nowF ⟨true, flat, pc, left, used, most, since, seq, waits, held⟩ = (noOp, false) := by simp [nowF]; omega
     rw [this]
     simp [two0, fillC, st, two1n, result, h1, nf, h2]
     exact ⟨kap _, zr _⟩
    ·obtain ⟨i, rfl⟩ := Int.eq_ofNat_of_zero_le (Int.not_lt.1 h1)
     have hi : i < flat.length := by omega
     have : nowF ⟨true, flat, i, left, used, most, since, seq, waits, held⟩ = (flat[i], true) := by simp [nowF, hi]
     rw [this]
     obtain ⟨b, o, row, y1, y2, y4⟩ := s0.rowK (k := .i64) (by decide) hi
     have y2 := (y2 _ (kap [.arr [.bool true, fv, .int .i64 i, .int .i64 left, .int .i64 used, .int .i64 most, .int .i64 since, .int .i64 seq, .bool waits, hv] .tight, .arr [.int .i64 0, .int .i64 0, .int .i64 0, .int .i64 0, .nils] .tight])).1
     have c0 := opC.len y4
     have f0 := opC.flat y4
     simp only [opC] at c0 y1 y2
     simp [two0, fillC, h1, nf, h2, y1, y2, c0, st, f0, two1n, result]
     exact ⟨kap _, opC.on y4 (kap _)⟩
theorem tick_spec {K : Nat} {h : Heap} {c : List CV} {x : JobV} {P : Nat → Prop} (hp : p.Pg K = some S.f39) (hq : p.pr K = none) (r0 : jobC.rep h P c x) :
  WF p K [.agg c] h fun r h' => Keep NoneOf h h' ∧ ∃ d, r = .tup [.agg d, .bool (tickF x).2] ∧ jobC.rep h' P d (tickF x).1 := by
 obtain ⟨fv, hv, rfl, s0, t0⟩ := r0
 obtain ⟨live, flat, pc, left, used, most, since, seq, waits, held⟩ := x
 simp only [jobCells] at s0 t0 ⊢
 have kap : ∀ g, Keep NoneOf h (h ++ g) := fun g => Keep.app _ _ _
 have f1 := s0.scalar
 have f2 := t0.scalar
 have fin : ∀ g pc' left' used', jobC.rep (h ++ g) P [.bool live, fv, .int .i64 pc', .int .i64 left', .int .i64 used', .int .i64 most, .int .i64 since, .int .i64 seq, .bool waits, hv] ⟨live, flat, pc', left', used', most, since, seq, waits, held⟩ := fun g _ _ _ => ⟨fv, hv, rfl, s0.on (kap _), t0.on (kap _)⟩
 refine WF_of hp hq ?_
 show W p S.b39 _ _ (retQ [.cell (some 10) 2, .t 3] _)
 unfold S.b39
 by_cases h1 : live = true
 ·subst h1
  by_cases h2 : left = 0
  ·have : tickF ⟨true, flat, pc, left, used, most, since, seq, waits, held⟩ = (⟨true, flat, pc, left, used, most, since, seq, waits, held⟩, false) := by simp [tickF, h2]
   rw [this]
   subst h2
   simp [two0, two_st0, store_new2, two0n, two1n, f1, f2, result]
   exact ⟨kap _, fin _ _ _ _⟩
  ·obtain ⟨l', hl'⟩ : ∃ l', IntKind.i64.wrap (left - 1) = l' := ⟨_, rfl⟩
   by_cases h3 : l' = 0
   ·have : tickF ⟨true, flat, pc, left, used, most, since, seq, waits, held⟩ = (⟨true, flat, IntKind.i64.wrap (pc + 1), 0, IntKind.i64.wrap (used + 1), most, since, seq, waits, held⟩, false) := by simp [tickF, h2, hl', h3]
    rw [this]
    subst h3
    simp [two0, two_st0, store_new2, two0n, two1n, f1, f2, result, h2, hl']
    exact ⟨kap _, fin _ _ _ _⟩
   ·have : tickF ⟨true, flat, pc, left, used, most, since, seq, waits, held⟩ = (⟨true, flat, pc, l', IntKind.i64.wrap (used + 1), most, since, seq, waits, held⟩, decide (IntKind.i64.wrap (used + 1) = most)) := by simp [tickF, h2, hl', h3]
    rw [this]
    simp [two0, two_st0, store_new2, two0n, two1n, f1, f2, result, h2, hl', h3]
    refine WO_re_n ?_
    simp [two0, two_st0, store_new2, two0n, two1n, f1, f2, result, h2, hl', h3]
    refine ⟨fun c => by simp [recheckB, wanted, Env.get, cls, evOp, Opd.ev, withH, CV.eqb, two0], kap _, fin _ _ _ _⟩
 ·have h1 : live = false := by simpa using h1
  subst h1
  have : tickF ⟨false, flat, pc, left, used, most, since, seq, waits, held⟩ = (⟨false, flat, pc, left, used, most, since, seq, waits, held⟩, false) := by simp [tickF]
  rw [this]
  simp [two0, two_st0, store_new2, two0n, two1n, f1, f2, result]
  exact ⟨kap _, fin _ _ _ _⟩
theorem mine_own {k : IntKind} {h : Heap} {v : CV} {l : List Int} (m : Mine h 1 v (ints k l)) : OwnL (.int k) h NoneOf v l := ⟨_, m, rows_ints.2 rfl, fun b hb hn => hn⟩
theorem cloneN_spec {h : Heap} {v : CV} {l : List Int} {P : Nat → Prop} (hp : p.Pg 55 = some S.f55) (hr : p.pr 55 = none) (s : Sl (.int .i64) h P v l) (hb : l.length ≤ big) :
  WF p 55 [v] h fun r h' => OwnL (.int .i64) h' NoneOf r l ∧ Keep NoneOf h h' ∧ ∀ b, r.blk = some b → h.length ≤ b := by
 refine WF_of hp hr ?_
 show W p S.b55 _ _ (retQ [.t 2] _)
 unfold S.b55
 have hs : (ints .i64 l).all CV.scalar = true := by simp [ints]
 have r := s.ints
 rcases r with ⟨rfl, h0⟩ | ⟨b, o, n, c, cs, st, rfl, h1, h2, h3, h4⟩
 ·have : l = [] := by simpa [ints] using h0
  subst this
  simp [eqv]
  exact ⟨OwnL.nil, Keep.refl _ _, by simp [CV.blk]⟩
 ·have r' : Read (h ++ [.arr [] .tight]) 1 (.sl b o n c) (ints .i64 l) := .inr ⟨b, o, n, c, cs, st, rfl, h1, get_app h2, h3, h4⟩
  have sp := spread_read r'
  simp only [ints_length] at sp
  simp [eqv, fillC, sp]
  by_cases hl : l.length = 0
  ·have : l = [] := List.length_eq_zero_iff.1 hl
   subst this
   simp [appendTo, ints]
   exact ⟨mine_own (l := []) (.inr ⟨h.length, 0, .tight, rfl, rfl, .inl rfl, by simp [ints]⟩), Keep.app _ _ _, by simp [CV.blk]⟩
  ·have hbig : ¬ (l.length > big ∨ (ints .i64 l).all CV.scalar = false) := by rw [hs]; simp; exact hb
   simp only [appendTo]
   rw [if_neg hbig]
   simp [hl, kill]
   exact ⟨mine_own (.inr ⟨h.length + 1, l.length, .loose 1, rfl, by simp, .inr rfl, by simp⟩), Keep.app _ _ _, by simp [CV.blk]⟩
def GiveInv1 (h : Heap) (C : List CV) (hv : CV) (held : List Int) (k : Int) (m : Nat) (e : Env) (h' : Heap) : Prop :=
 ∃ (i : Nat) (ov : CV), i ≤ held.length ∧ m = held.length - i ∧ e = [(1, .int .i64 k), (2, .ptr h.length 0), (4, .ptr (h.length + 1) 0), (5, ov), (9, hv), (10, .int .i64 held.length), (11, .int .i64 i)] ∧ Keep NoneOf h h' ∧ h'[h.length]? = some (.arr C .tight) ∧
  h'[h.length + 1]? = some (.arr [.bool false, .nils, .int .i64 0, .int .i64 0, .int .i64 0, .int .i64 0, .int .i64 0, .int .i64 0, .bool false, .nils] .tight) ∧ OwnL (.int .i64) h' NoneOf ov ((held.take i).filter fun y => decide (y ≠ k)) ∧ ∀ b, ov.blk = some b → h.length + 2 ≤ b
theorem filter_len {l : List Int} {f : Int → Bool} {i : Nat} (h : l.length ≤ big) : ((l.take i).filter f).length ≤ big := by
 have := List.length_filter_le f (l.take i)
 have : (l.take i).length ≤ l.length := by simp; omega
 omega
set_option maxHeartbeats 2000000
def FlatInv (v0 : CV) (l : List OpV) (P : Nat → Prop) (h : Heap) (m : Nat) (e : Env) (h' : Heap) : Prop :=
 ∃ (i : Nat) (ov : CV), i ≤ l.length ∧ m = l.length - i ∧ e = [(0, v0), (3, ov), (4, .int .i64 i)] ∧ Keep NoneOf h h' ∧ OwnL opC h' (fun b => P b ∧ b < h.length) ov (l.take i) ∧ ∀ b, ov.blk = some b → h.length ≤ b
theorem flatPlain_spec {h : Heap} {v0 : CV} {l : List OpV} {P : Nat → Prop} (hpg : p.Pg = S.pg) (q65 : p.pr 65 = none) (s0 : Sl opC h P v0 l) (hb : l.length ≤ big) (hk : ∀ o ∈ l, o.kind ≠ 8) :
  WF p 65 [v0] h fun r h' => Keep NoneOf h h' ∧ Sl opC h' (Or P h) r l := by
 refine WF_of (by rw [hpg]; exact S.pg65) q65 ?_
 show W p S.b65 _ _ (retQ [.t 2] _)
 unfold S.b65
 simp
 refine W_loop (FlatInv v0 l P h) ?_ l.length ⟨0, .nils, by omega, by omega, rfl, Keep.refl _ _, OwnL.nil, by simp [CV.blk]⟩
 rintro m e h1 ⟨i, ov, hi, rfl, rfl, k1, ow, hov⟩
 have s1 := s0.on k1
 have n1 := s1.len (by decide)
 by_cases hie : i = l.length
 ·subst hie
  rw [List.take_length] at ow
  simp [n1]
  exact ⟨k1, ow.sl.mono fun b hb => hb.elim (fun hb => .inl hb.1) fun hb => .inr (hov b hb)⟩
 ·have hlt : i < l.length := by omega
  have hlt' : (i : Int) < l.length := by omega
  obtain ⟨bb, o, row, x1, x2, x4⟩ := s0.rowK (k := .i64) (by decide) hlt
  have x3 := (x2 h1 k1).2 0 (by decide)
  have x5 := (x2 h1 k1).1
  have cl := opC.len x4
  have x6 := opC.on (opC.lt x4) k1
  obtain ⟨cv, rfl, _⟩ := x4
  simp only [opC] at x1 x5 cl
  simp at x3
  have hw : IntKind.i64.wrap ((i : Int) + 1) = ((i + 1 : Nat) : Int) := by
   simp [big] at hb
   rw [w64 (by omega) (by omega)]; omega
  have hkk := hk _ (List.getElem_mem hlt)
  have kap : ∀ g, Keep NoneOf h1 (h1 ++ g) := fun g => Keep.app _ _ _
  simp [n1, hlt', x1, x3, x5, hkk, fillC, splice, spread, cellsAt]
  have ow2 := ow.on (kap [.arr [.int .i64 l[i].kind, .int .i64 l[i].n, .int .i64 l[i].v, .int .i64 l[i].wait, cv] .tight])
  refine OV_push (e := opC) (x := l[i]) ow2 (opC.on x6 (kap _)) (fun b hb => by have := k1.len; simp; omega) (by simp; omega) (by decide) ?_
  intro v' h3 o3 k3 hb3
  simp [hw]
  refine ⟨l.length - (i + 1), by omega, i + 1, v', by omega, rfl, rfl, (k1.trans (kap _)).then k3 fun b hb e => by have := hov b e; omega, by simpa [List.take_append_getElem hlt] using o3, fun b hb => ?_⟩
  rcases hb3 b hb with q | q
  ·exact hov b q
  ·have := k1.len; simp at q; omega
def newF (l : List OpV) (most now seq : Int) : JobV := ⟨true, l, 0, 0, 0, most, now, seq, false, []⟩
theorem jobNew_spec {h : Heap} {v0 : CV} {l : List OpV} {P : Nat → Prop} {most now seq : Int} (hpg : p.Pg = S.pg) (q48 : p.pr 48 = none) (q65 : p.pr 65 = none) (s0 : Sl opC h P v0 l) (hb : l.length ≤ big) (hk : ∀ o ∈ l, o.kind ≠ 8) :
  WF p 48 [v0, .int .i64 most, .int .i64 now, .int .i64 seq] h fun r h' => Keep NoneOf h h' ∧ ∃ d, r = .agg d ∧ jobC.rep h' (Or P h) d (newF l most now seq) := by
 refine WF_of (by rw [hpg]; exact S.pg48) q48 ?_
 show W p S.b48 _ _ (retQ [.cell (some 10) 8] _)
 unfold S.b48
 have kap : ∀ g, Keep NoneOf h (h ++ g) := fun g => Keep.app _ _ _
 simp
 refine (flatPlain_spec hpg q65 (s0.lt.on (kap _)) hb hk).mono ?_
 rintro r h2 ⟨k2, so⟩
 have g := k2.at (b := h.length) (o := .arr [.bool false, .nils, .int .i64 0, .int .i64 0, .int .i64 0, .int .i64 0, .int .i64 0, .int .i64 0, .bool false, .nils] .tight) (by simp) id
 have fr := so.scalar
 have fl : ([.bool true, r, .int .i64 0, .int .i64 0, .int .i64 0, .int .i64 most, .int .i64 now, .int .i64 seq, .bool false, .nils] : List CV).all CV.scalar = true := by
  simp only [List.all_cons, List.all_nil, fr]; rfl
 have ke : Keep (fun b => b = h.length) h2 (h2.set h.length (.arr [.bool true, r, .int .i64 0, .int .i64 0, .int .i64 0, .int .i64 most, .int .i64 now, .int .i64 seq, .bool false, .nils] .tight)) := Keep.set _ _ rfl
 have kk : Keep NoneOf h _ := ((kap _).trans k2).then ke fun b hb e => by omega
 have l2 := ldw (get_set_self (o := .arr [.bool true, r, .int .i64 0, .int .i64 0, .int .i64 0, .int .i64 most, .int .i64 now, .int .i64 seq, .bool false, .nils] .tight) (lt_of_get g)) (n := 10) rfl
 have s2 := sto g (vs := [.bool true, r, .int .i64 0, .int .i64 0, .int .i64 0, .int .i64 most, .int .i64 now, .int .i64 seq, .bool false, .nils]) rfl fl
 simp [fillC, splice, CV.cells_scalar fr, s2, l2]
 refine ⟨kk, r, .nils, rfl, (so.keep ke fun b hb e => ?_).mono fun b hb => ?_, Sl.nil⟩
 ·rcases hb with hb | hb
  ·omega
  ·simp at hb; omega
 ·rcases hb with hb | hb
  ·exact .inl hb.1
  ·right; simp at hb; omega
theorem begin36 (lp : LP p) {h : Heap} {c : List CV} {x : JobV} {P : Nat → Prop} (r0 : jobC.rep h P c x) :
  WF p 36 [.agg c] h fun r h' => Keep NoneOf h h' ∧ ∃ d, r = .tup [.agg d, .bool (beginF x).2] ∧ jobC.rep h' P d (beginF x).1 := by
 have r00 := r0
 obtain ⟨fv, hv, rfl, s0, t0⟩ := r0
 obtain ⟨live, flat, pc, left, used, most, since, seq, waits, held⟩ := x
 simp only [jobCells] at s0 t0 r00 ⊢
 have kap : ∀ (h : Heap) g, Keep NoneOf h (h ++ g) := fun h g => Keep.app _ _ _
 have f1 := s0.scalar
 have f2 := t0.scalar
 obtain ⟨Z, hZ⟩ : ∃ Z : List CV, Z = [.bool false, .nils, .int .i64 0, .int .i64 0, .int .i64 0, .int .i64 0, .int .i64 0, .int .i64 0, .bool false, .nils] := ⟨_, rfl⟩
 obtain ⟨o, ok, hno⟩ : ∃ o ok, nowF ⟨live, flat, pc, left, used, most, since, seq, waits, held⟩ = (o, ok) := ⟨_, _, rfl⟩
 have all : ∀ (A : List CV), A.length = 10 → A.all CV.scalar = true → ∀ h3 : Heap, h3[h.length]? = some (.arr A .tight) → h3[h.length + 1]? = some (.arr Z .tight) → Keep NoneOf h h3 →
   loadAt h3 h.length 0 (some 10) = some (.agg A) ∧ ∃ h4, storeAt h3 (h.length + 1) 0 A = some h4 ∧ loadAt h4 (h.length + 1) 0 (some 10) = some (.agg A) ∧ Keep NoneOf h h4 := by
  intro A hA fA h3 g0 g1 k3
  refine ⟨ldw g0 hA, _, sto g1 (by rw [hA, hZ]; rfl) fA, ldw (get_set_self (lt_of_get g1)) hA, ?_⟩
  have ke : Keep (fun b => b = h.length + 1) h3 (h3.set (h.length + 1) (.arr A .tight)) := Keep.set _ _ rfl
  exact k3.then ke fun b hb e => by omega
 have fA : ∀ n, ([.bool live, fv, .int .i64 pc, .int .i64 n, .int .i64 used, .int .i64 most, .int .i64 since, .int .i64 seq, .bool waits, hv] : List CV).all CV.scalar = true := fun n => by
  simp only [List.all_cons, List.all_nil, f1, f2]; rfl
 have rp : ∀ n h', Keep NoneOf h h' → jobC.rep h' P [.bool live, fv, .int .i64 pc, .int .i64 n, .int .i64 used, .int .i64 most, .int .i64 since, .int .i64 seq, .bool waits, hv] ⟨live, flat, pc, n, used, most, since, seq, waits, held⟩ := fun n h' k => ⟨fv, hv, rfl, s0.on k, t0.on k⟩
 have kk1 := kap h [.arr [.bool live, fv, .int .i64 pc, .int .i64 left, .int .i64 used, .int .i64 most, .int .i64 since, .int .i64 seq, .bool waits, hv] .tight, .arr Z .tight]
 have h30 : p.Pg 30 = some S.f30 := by rw [lp.pg]; exact S.pg30
 have q30 : p.pr 30 = none := lp.no ⟨rfl, rfl⟩
 refine WF_of (by rw [lp.pg]; exact S.pg36) (lp.no ⟨rfl, rfl⟩) ?_
 show W p S.b36 _ _ (retQ [.cell (some 10) 2, .t 3] _)
 unfold S.b36
 rw [← hZ]
 have la : (CV.agg Z).cells = Z := rfl
 simp [two0n, la]
 refine (now_spec h30 q30 (jobC.on r00 kk1)).mono ?_
 rintro r h2 ⟨k2, d, rfl, rd⟩
 rw [hno] at rd ⊢
 have g0 := k2.at (b := h.length) (o := .arr [.bool live, fv, .int .i64 pc, .int .i64 left, .int .i64 used, .int .i64 most, .int .i64 since, .int .i64 seq, .bool waits, hv] .tight) (by simp) id
 have g1 := k2.at (b := h.length + 1) (o := .arr Z .tight) (by simp) id
 obtain ⟨cv, rfl, sc⟩ := rd
 obtain ⟨k1, n1, v1, wt1, cs1⟩ := o
 simp only at sc ⊢
 have f3 := sc.scalar
 have k02 : Keep NoneOf h h2 := kk1.trans k2
 have k03 := k02.trans (kap h2 [.arr [.int .i64 k1, .int .i64 n1, .int .i64 v1, .int .i64 wt1, cv] .tight])
 have e0 := get_app (g := [.arr [.int .i64 k1, .int .i64 n1, .int .i64 v1, .int .i64 wt1, cv] .tight]) g0
 have e1 := get_app (g := [.arr [.int .i64 k1, .int .i64 n1, .int .i64 v1, .int .i64 wt1, cv] .tight]) g1
 have l0 := ld e0
 obtain ⟨w1, h4, w2, w3, w4⟩ := all _ rfl (fA left) _ e0 e1 k03
 have st5 := store_new (h := h2) (z := [.int .i64 0, .int .i64 0, .int .i64 0, .int .i64 0, .nils]) (row := [.int .i64 k1, .int .i64 n1, .int .i64 v1, .int .i64 wt1, cv]) rfl (by simp only [List.all_cons, List.all_nil, f3]; rfl)
 by_cases c0 : ok = true
 ·subst c0
  by_cases c1 : k1 = 1
  ·subst c1
   by_cases c2 : left = 0
   ·subst c2
    by_cases c3 : used < most
    ·have hF : beginF ⟨live, flat, pc, 0, used, most, since, seq, waits, held⟩ = (⟨live, flat, pc, n1, used, most, since, seq, waits, held⟩, true) := by unfold beginF; rw [hno]; simp [c3]
     rw [hF]
     have c3' : ¬ most ≤ used := by omega
     have s3 := sto1 e0 (o := 3) (v := .int .i64 n1) (by simp) rfl
     have ke : Keep (fun b => b = h.length) (h2 ++ [Obj.arr [.int .i64 1, .int .i64 n1, .int .i64 v1, .int .i64 wt1, cv] .tight]) ((h2 ++ [Obj.arr [.int .i64 1, .int .i64 n1, .int .i64 v1, .int .i64 wt1, cv] .tight]).set h.length (.arr [.bool live, fv, .int .i64 pc, .int .i64 n1, .int .i64 used, .int .i64 most, .int .i64 since, .int .i64 seq, .bool waits, hv] .tight)) := Keep.set _ _ rfl
     obtain ⟨u1, h5, u2, u3, u4⟩ := all _ rfl (fA n1) _ (get_set_self (lt_of_get e0)) (ke.at (o := .arr Z .tight) e1 (by omega)) (k03.then ke fun b hb e => by omega)
     simp only [List.set_cons_succ, List.set_cons_zero] at s3
     simp [result, st5, one0, l0, c3, c3']
     rw [s3]
     simp [u1, u2, u3]
     exact ⟨u4, rp _ _ u4⟩
    ·have c3' : most ≤ used := by omega
     have hF : beginF ⟨live, flat, pc, 0, used, most, since, seq, waits, held⟩ = (⟨live, flat, pc, 0, used, most, since, seq, waits, held⟩, false) := by unfold beginF; rw [hno]; simp [c3]
     rw [hF]
     simp [result, st5, one0, l0, c3', w1, w2, w3]
     exact ⟨w4, rp _ _ w4⟩
   ·have hF : beginF ⟨live, flat, pc, left, used, most, since, seq, waits, held⟩ = (⟨live, flat, pc, left, used, most, since, seq, waits, held⟩, false) := by unfold beginF; rw [hno]; simp [c2]
    rw [hF]
    simp [result, st5, one0, l0, c2, w1, w2, w3]
    exact ⟨w4, rp _ _ w4⟩
  ·have hF : beginF ⟨live, flat, pc, left, used, most, since, seq, waits, held⟩ = (⟨live, flat, pc, left, used, most, since, seq, waits, held⟩, false) := by unfold beginF; rw [hno]; simp [c1]
   rw [hF]
   simp [result, st5, one0, l0, c1, w1, w2, w3]
   exact ⟨w4, rp _ _ w4⟩
 ·have c0 : ok = false := by simpa using c0
  subst c0
  have hF : beginF ⟨live, flat, pc, left, used, most, since, seq, waits, held⟩ = (⟨live, flat, pc, left, used, most, since, seq, waits, held⟩, false) := by unfold beginF; rw [hno]; simp 
  rw [hF]
  simp [result, st5, one0, l0, w1, w2, w3]
  exact ⟨w4, rp _ _ w4⟩
end Go.Cl
