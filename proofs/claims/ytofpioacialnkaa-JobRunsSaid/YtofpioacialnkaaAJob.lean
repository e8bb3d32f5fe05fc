/-
  Layer 20: what a job is, and what its calls come to.
-/
import Derived.Test.YtofpioacialnkaaAOpO
import Derived.Test.YtofpioacialnkaaAGraphL
namespace Go.Cl
open Go
set_option linter.unusedSimpArgs false
set_option linter.unusedVariables false

variable {p : PP}

structure JobV where
  live : Bool
  flat : List OpV
  pc : Int
  left : Int
  used : Int
  most : Int
  since : Int
  seq : Int
  waits : Bool
  held : List Int
  deriving DecidableEq, Inhabited

def jobCells (x : JobV) (fv hv : CV) : List CV := [.bool x.live, fv, .int .i64 x.pc, .int .i64 x.left, .int .i64 x.used, .int .i64 x.most, .int .i64 x.since, .int .i64 x.seq, .bool x.waits, hv]

theorem jobCells_flat {x : JobV} {fv hv : CV} (h1 : fv.scalar = true) (h2 : hv.scalar = true) : (jobCells x fv hv).all CV.scalar = true := by
  simp only [jobCells, List.all_cons, List.all_nil, h1, h2]; rfl

def jobC : Cod JobV where
  n := 10
  rep h P c x := ∃ fv hv, c = jobCells x fv hv ∧ Sl opC h P fv x.flat ∧ Sl (.int .i64) h P hv x.held
  len := by rintro h P c x ⟨fv, hv, rfl, _⟩; rfl
  flat := by rintro h P c x ⟨fv, hv, rfl, s, t⟩; exact jobCells_flat s.scalar t.scalar
  mono := by rintro h P Q c x ⟨fv, hv, rfl, s, t⟩ k; exact ⟨fv, hv, rfl, s.mono k, t.mono k⟩
  keep := by rintro h h' P S c x ⟨fv, hv, rfl, s, t⟩ k hS; exact ⟨fv, hv, rfl, s.keep k hS, t.keep k hS⟩
  lt := by rintro h P c x ⟨fv, hv, rfl, s, t⟩; exact ⟨fv, hv, rfl, s.lt, t.lt⟩

def noOp : OpV := ⟨0, 0, 0, 0, []⟩
def nowF (x : JobV) : OpV × Bool := if x.live = true ∧ 0 ≤ x.pc ∧ x.pc < x.flat.length then (x.flat.getD x.pc.toNat noOp, true) else (noOp, false)
def beginF (x : JobV) : JobV × Bool :=
  if (nowF x).2 = true ∧ (nowF x).1.kind = 1 ∧ x.left = 0 ∧ x.used < x.most then ({ x with left := (nowF x).1.n }, true) else (x, false)
def tickF (x : JobV) : JobV × Bool :=
  if x.live = true ∧ x.left ≠ 0 then
    if IntKind.i64.wrap (x.left - 1) = 0 then ({ x with left := 0, used := IntKind.i64.wrap (x.used + 1), pc := IntKind.i64.wrap (x.pc + 1) }, false)
    else ({ x with left := IntKind.i64.wrap (x.left - 1), used := IntKind.i64.wrap (x.used + 1) }, decide (IntKind.i64.wrap (x.used + 1) = x.most))
  else (x, false)
def stepF (x : JobV) : JobV := { x with pc := IntKind.i64.wrap (x.pc + 1), left := 0, waits := false }
def takeF (x : JobV) (k : Int) : JobV := { x with held := x.held ++ [k] }
def giveF (x : JobV) (k : Int) : JobV := { x with held := x.held.filter fun y => decide (y ≠ k) }

/-- what lay there, or is new -/
def Or (P : Nat → Prop) (h : Heap) : Nat → Prop := fun b => P b ∨ h.length ≤ b

theorem Cod.or {α : Type} (e : Cod α) {h h' : Heap} {P : Nat → Prop} {c : List CV} {x : α} (r : e.rep h P c x) (k : Keep NoneOf h h') : e.rep h' (Or P h) c x := e.mono (e.on r k) fun _ hb => .inl hb

theorem now_spec {K : Nat} {h : Heap} {c : List CV} {x : JobV} {P : Nat → Prop} (hp : p.Pg K = some S.f30) (hq : p.pr K = none) (r0 : jobC.rep h P c x) :
    WF p K [.agg c] h fun r h' => Keep NoneOf h h' ∧ ∃ d, r = .tup [.agg d, .bool (nowF x).2] ∧ opC.rep h' P d (nowF x).1 := by
  obtain ⟨fv, hv, rfl, s0, t0⟩ := r0
  refine WF_of hp hq ?_
  show W p S.b30 _ _ (retQ [.cell (some 5) 2, .t 3] _)
  unfold S.b30
  obtain ⟨live, flat, pc, left, used, most, since, seq, waits, held⟩ := x
  simp only [jobCells] at s0 t0 ⊢
  have kap : ∀ g, Keep NoneOf h (h ++ g) := fun g => Keep.app _ _ _
  have zr : ∀ h', opC.rep h' P [.int .i64 0, .int .i64 0, .int .i64 0, .int .i64 0, .nils] noOp := fun h' => ⟨.nils, rfl, Sl.nil⟩
  have s0' := s0.on (kap [.arr [.bool live, fv, .int .i64 pc, .int .i64 left, .int .i64 used, .int .i64 most, .int .i64 since, .int .i64 seq, .bool waits, hv] .tight, .arr [.int .i64 0, .int .i64 0, .int .i64 0, .int .i64 0, .nils] .tight])
  have nf := s0'.len (by decide)
  have st : ∀ (o1 : Obj) (row : List CV), row.length = 5 → row.all CV.scalar = true → storeAt (h ++ [o1, .arr [.int .i64 0, .int .i64 0, .int .i64 0, .int .i64 0, .nils] .tight]) (h.length + 1) 0 row = some (h ++ [o1, .arr row .tight]) := fun o1 row q1 q2 => store_new2 (by simpa using q1) q2
  cases live with
  | false =>
    have : nowF ⟨false, flat, pc, left, used, most, since, seq, waits, held⟩ = (noOp, false) := by simp [nowF]
    rw [this]
    simp [two0, fillC, st, two1n, result]
    exact ⟨kap _, zr _⟩
  | true =>
    by_cases h1 : pc < 0
    · have : nowF ⟨true, flat, pc, left, used, most, since, seq, waits, held⟩ = (noOp, false) := by simp [nowF, h1]; omega
      rw [this]
      simp [two0, fillC, st, two1n, result, h1]
      exact ⟨kap _, zr _⟩
    · by_cases h2 : (flat.length : Int) ≤ pc
      · have : nowF ⟨true, flat, pc, left, used, most, since, seq, waits, held⟩ = (noOp, false) := by simp [nowF]; omega
        rw [this]
        simp [two0, fillC, st, two1n, result, h1, nf, h2]
        exact ⟨kap _, zr _⟩
      · obtain ⟨i, rfl⟩ := Int.eq_ofNat_of_zero_le (Int.not_lt.1 h1)
        have hi : i < flat.length := by omega
        have : nowF ⟨true, flat, i, left, used, most, since, seq, waits, held⟩ = (flat[i], true) := by simp [nowF, hi]
        rw [this]
        obtain ⟨b, o, row, y1, y2, y4⟩ := s0.rowK (k := .i64) (by decide) hi
        have y2 := (y2 _ (kap [.arr [.bool true, fv, .int .i64 i, .int .i64 left, .int .i64 used, .int .i64 most, .int .i64 since, .int .i64 seq, .bool waits, hv] .tight, .arr [.int .i64 0, .int .i64 0, .int .i64 0, .int .i64 0, .nils] .tight])).1
        have c0 := opC.len y4
        have f0 := opC.flat y4
        simp only [opC] at c0 y1 y2
        simp [two0, fillC, h1, nf, h2, y1, y2, c0, st, f0, two1n, result]
        exact ⟨kap _, opC.on y4 (kap _)⟩

theorem step_spec {K : Nat} {h : Heap} {c : List CV} {x : JobV} {P : Nat → Prop} (hp : p.Pg K = some S.f41 ∨ p.Pg K = some S.f42) (hq : p.pr K = none) (r0 : jobC.rep h P c x) :
    WF p K [.agg c] h fun r h' => Keep NoneOf h h' ∧ ∃ d, r = .agg d ∧ jobC.rep h' P d (stepF x) := by
  obtain ⟨fv, hv, rfl, s0, t0⟩ := r0
  obtain ⟨live, flat, pc, left, used, most, since, seq, waits, held⟩ := x
  simp only [jobCells] at s0 t0 ⊢
  have kap : ∀ g, Keep NoneOf h (h ++ g) := fun g => Keep.app _ _ _
  have f1 := s0.scalar
  have f2 := t0.scalar
  have fin : ∀ g, jobC.rep (h ++ g) P [.bool live, fv, .int .i64 (IntKind.i64.wrap (pc + 1)), .int .i64 0, .int .i64 used, .int .i64 most, .int .i64 since, .int .i64 seq, .bool false, hv] (stepF ⟨live, flat, pc, left, used, most, since, seq, waits, held⟩) := fun g => ⟨fv, hv, rfl, s0.on (kap _), t0.on (kap _)⟩
  rcases hp with hp | hp
  · refine WF_of hp hq ?_
    show W p S.b41 _ _ (retQ [.cell (some 10) 2] _)
    unfold S.b41
    simp [two0, two_st0, store_new2, two0n, two1n, f1, f2]
    exact ⟨kap _, fin _⟩
  · refine WF_of hp hq ?_
    show W p S.b42 _ _ (retQ [.cell (some 10) 2] _)
    unfold S.b42
    simp [two0, two_st0, store_new2, two0n, two1n, f1, f2]
    exact ⟨kap _, fin _⟩

theorem tick_spec {K : Nat} {h : Heap} {c : List CV} {x : JobV} {P : Nat → Prop} (hp : p.Pg K = some S.f39) (hq : p.pr K = none) (r0 : jobC.rep h P c x) :
    WF p K [.agg c] h fun r h' => Keep NoneOf h h' ∧ ∃ d, r = .tup [.agg d, .bool (tickF x).2] ∧ jobC.rep h' P d (tickF x).1 := by
  obtain ⟨fv, hv, rfl, s0, t0⟩ := r0
  obtain ⟨live, flat, pc, left, used, most, since, seq, waits, held⟩ := x
  simp only [jobCells] at s0 t0 ⊢
  have kap : ∀ g, Keep NoneOf h (h ++ g) := fun g => Keep.app _ _ _
  have f1 := s0.scalar
  have f2 := t0.scalar
  have fin : ∀ g pc' left' used', jobC.rep (h ++ g) P [.bool live, fv, .int .i64 pc', .int .i64 left', .int .i64 used', .int .i64 most, .int .i64 since, .int .i64 seq, .bool waits, hv] ⟨live, flat, pc', left', used', most, since, seq, waits, held⟩ := fun g _ _ _ => ⟨fv, hv, rfl, s0.on (kap _), t0.on (kap _)⟩
  refine WF_of hp hq ?_
  show W p S.b39 _ _ (retQ [.cell (some 10) 2, .t 3] _)
  unfold S.b39
  by_cases h1 : live = true
  · subst h1
    by_cases h2 : left = 0
    · have : tickF ⟨true, flat, pc, left, used, most, since, seq, waits, held⟩ = (⟨true, flat, pc, left, used, most, since, seq, waits, held⟩, false) := by simp [tickF, h2]
      rw [this]
      subst h2
      simp [two0, two_st0, store_new2, two0n, two1n, f1, f2, result]
      exact ⟨kap _, fin _ _ _ _⟩
    · obtain ⟨l', hl'⟩ : ∃ l', IntKind.i64.wrap (left - 1) = l' := ⟨_, rfl⟩
      by_cases h3 : l' = 0
      · have : tickF ⟨true, flat, pc, left, used, most, since, seq, waits, held⟩ = (⟨true, flat, IntKind.i64.wrap (pc + 1), 0, IntKind.i64.wrap (used + 1), most, since, seq, waits, held⟩, false) := by simp [tickF, h2, hl', h3]
        rw [this]
        subst h3
        simp [two0, two_st0, store_new2, two0n, two1n, f1, f2, result, h2, hl']
        exact ⟨kap _, fin _ _ _ _⟩
      · have : tickF ⟨true, flat, pc, left, used, most, since, seq, waits, held⟩ = (⟨true, flat, pc, l', IntKind.i64.wrap (used + 1), most, since, seq, waits, held⟩, decide (IntKind.i64.wrap (used + 1) = most)) := by simp [tickF, h2, hl', h3]
        rw [this]
        simp [two0, two_st0, store_new2, two0n, two1n, f1, f2, result, h2, hl', h3]
        refine WO_re_n ?_
        simp [two0, two_st0, store_new2, two0n, two1n, f1, f2, result, h2, hl', h3]
        refine ⟨fun c => by simp [recheckB, wanted, Env.get, cls, evOp, Opd.ev, withH, CV.eqb, two0], kap _, fin _ _ _ _⟩
  · have h1 : live = false := by simpa using h1
    subst h1
    have : tickF ⟨false, flat, pc, left, used, most, since, seq, waits, held⟩ = (⟨false, flat, pc, left, used, most, since, seq, waits, held⟩, false) := by simp [tickF]
    rw [this]
    simp [two0, two_st0, store_new2, two0n, two1n, f1, f2, result]
    exact ⟨kap _, fin _ _ _ _⟩

end Go.Cl
