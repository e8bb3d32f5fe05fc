/-
  Texts laid together: AEv AEvT AEvL AEvP AEvI AEvQ AEvF AEvA AEvB.
-/
import Derived.Test.YtiegjnklhafloaaDoorM7
import Derived.Test.YtiegjnklhafloaaDoorM5

namespace Go.Cl
open Go
set_option linter.unusedSimpArgs false
set_option linter.unusedVariables false
set_option maxHeartbeats 4000000

variable {p : PP}

def evL (x : EvV) : List CV := [.int .i64 x.t, .int .i64 x.kind, .int .i64 x.task, .int .i64 x.pc, .int .i64 x.err, .int .i64 x.case, .int .i64 x.v]

def evtC : Cod EvV where
  n := 7
  rep _ _ c x := c = evL x
  len e := by subst e; rfl
  flat e := by subst e; rfl
  mono e _ := e
  keep e _ _ := e
  lt e := e

theorem evL_len (x : EvV) : (evL x).length = 7 := rfl
theorem evL_flat (x : EvV) : (evL x).all CV.scalar = true := rfl
theorem evL_0 (x : EvV) : (evL x)[0]? = some (.int .i64 x.t) := rfl
theorem evL_1 (x : EvV) : (evL x)[1]? = some (.int .i64 x.kind) := rfl
theorem evL_2 (x : EvV) : (evL x)[2]? = some (.int .i64 x.task) := rfl
theorem evL_3 (x : EvV) : (evL x)[3]? = some (.int .i64 x.pc) := rfl
theorem evL_4 (x : EvV) : (evL x)[4]? = some (.int .i64 x.err) := rfl
theorem evL_5 (x : EvV) : (evL x)[5]? = some (.int .i64 x.case) := rfl
theorem evL_6 (x : EvV) : (evL x)[6]? = some (.int .i64 x.v) := rfl

/-- an event as another type's -/
theorem evTo_spec {K : Nat} {x : EvV} {h : Heap} (hp : p.Pg K = some S.f108) (hq : p.pr K = none) : WF p K [.agg (evL x)] h fun r h' => r = .agg (evL x) ∧ Keep NoneOf h h' := by
  refine WF_of hp hq ?_
  show W p S.b108 _ _ (retQ [.cell (some 7) 2] _)
  unfold S.b108
  have st := fun z => store_new2 (h := h) (o := .arr (evL x) .tight) (row := evL x) (z := z)
  simp [CV.cells, two0, two1, two0n, two1n, evL_0, evL_1, evL_2, evL_3, evL_4, evL_5, evL_6, fillC, splice, fits, evL, CV.scalar, store_new2]
  exact Keep.app _ _ _

/-! ### the Kinds' shapes -/

structure ShV where
  word : Wd
  task : Bool
  pc : Bool
  err : Bool
  rest : Bool
  deriving Inhabited

def shL (x : ShV) : List CV := [.str x.word, .bool x.task, .bool x.pc, .bool x.err, .bool x.rest]

def shC : Cod ShV where
  n := 5
  rep _ _ c x := c = shL x
  len e := by subst e; rfl
  flat e := by subst e; rfl
  mono e _ := e
  keep e _ _ := e
  lt e := e

def shapesL : List ShV := [⟨[], false, false, false, false⟩, ⟨vRelease, true, false, false, false⟩, ⟨vRefuse, true, false, true, false⟩, ⟨vRuns, true, false, false, false⟩, ⟨vResult, true, true, true, true⟩, ⟨vWaits, true, true, false, false⟩, ⟨vDone, true, false, false, false⟩, ⟨vAbort, true, false, false, false⟩, ⟨vIdle, false, false, false, false⟩]

theorem shape_at {i : Nat} (h0 : 1 ≤ i) (h1 : i < 9) : shapesL[i]'h1 = ⟨evWord i, hasTask i, hasPc i, hasErr i, hasRest i⟩ := by
  have : i = 1 ∨ i = 2 ∨ i = 3 ∨ i = 4 ∨ i = 5 ∨ i = 6 ∨ i = 7 ∨ i = 8 := by omega
  rcases this with rfl | rfl | rfl | rfl | rfl | rfl | rfl | rfl <;> rfl

theorem shapes_spec (lp : LP p) {h : Heap} : WF p 127 [] h fun r h' => ∃ v, r = v ∧ Sl shC h' (From h) v shapesL ∧ Keep NoneOf h h' := by
  refine WF_of (by rw [lp.pg]; exact S.pg127) (lp.no ⟨rfl, rfl⟩) ?_
  show W p S.b127 _ _ (retQ [.t 0] _)
  unfold S.b127
  simp [fillC, splice, CV.cells]
  refine ⟨?_, Keep.app _ _ _⟩
  exact Sl.fresh (Rows.of_flat shL shapesL fun x _ => rfl) rfl

/-! ### may it be -/

theorem evCheck_spec (lp : LP p) {x : EvV} {h : Heap} : WF p 109 [.agg (evL x)] h fun r h' => r = .int .i64 (evCheckP x) ∧ Keep NoneOf h h' := by
  refine WF_of (by rw [lp.pg]; exact S.pg109) (lp.no ⟨rfl, rfl⟩) ?_
  show W p S.b109 _ _ (retQ [.t 2] _)
  unfold S.b109
  by_cases k0 : x.kind < 1
  · rw [show evCheckP x = 3 by simp [evCheckP, k0]]
    simp [CV.cells, one0, evL_0, evL_1, evL_2, evL_3, evL_4, evL_5, evL_6, k0]
    exact Keep.app _ _ _
  by_cases k8 : 8 < x.kind
  · rw [show evCheckP x = 3 by simp [evCheckP, k8]]
    simp [CV.cells, one0, evL_0, evL_1, evL_2, evL_3, evL_4, evL_5, evL_6, k0, k8]
    exact Keep.app _ _ _
  obtain ⟨C, hC⟩ : ∃ C, C = evL x := ⟨_, rfl⟩
  have c0 : C[0]? = some (.int .i64 x.t) := by subst hC; rfl
  have c1 : C[1]? = some (.int .i64 x.kind) := by subst hC; rfl
  have c2 : C[2]? = some (.int .i64 x.task) := by subst hC; rfl
  have c3 : C[3]? = some (.int .i64 x.pc) := by subst hC; rfl
  have c4 : C[4]? = some (.int .i64 x.err) := by subst hC; rfl
  have c5 : C[5]? = some (.int .i64 x.case) := by subst hC; rfl
  have c6 : C[6]? = some (.int .i64 x.v) := by subst hC; rfl
  have hP : evCheckP x = if evBad x then 1 else 0 := by simp [evCheckP, k0, k8]
  rw [hP, ← hC]
  simp [CV.cells, one0, two0, c0, c1, c2, c3, c4, c5, c6, k0, k8]
  refine WO_re_n ?_
  simp
  refine (shapes_spec lp).mono ?_
  rintro r h1 ⟨v, rfl, sl, k1⟩
  have g0 := k1.at (b := h.length) (o := .arr C .tight) (by simp) id
  have g1 := k1.at (b := h.length + 1) (o := .arr [.str [], .bool false, .bool false, .bool false, .bool false] .tight) (by simp) id
  have l0 := ld g0
  refine ⟨fun c => by simp [recheckB, wanted, Env.get, cls, evOp, Opd.ev, withH, CV.eqb, l0, c1], ?_⟩
  obtain ⟨i, hi⟩ := Int.eq_ofNat_of_zero_le (by omega : 0 ≤ x.kind)
  have hi9 : i < shapesL.length := by show i < 9; omega
  obtain ⟨b0, o0, row, x1, x2, x3, x4⟩ := sl.row (k := .i64) (by decide) hi9
  rw [shape_at (by omega) hi9, ← hi] at x4
  have x4 : row = shL ⟨evWord x.kind, hasTask x.kind, hasPc x.kind, hasErr x.kind, hasRest x.kind⟩ := x4
  simp only [shC] at x1 x2 x3
  have st := sto g1 (vs := row) (by rw [x4]; rfl) (by rw [x4]; rfl)
  have hf : hasTask x.kind = hasTask x.kind := rfl
  generalize hT : hasTask x.kind = tk at *
  generalize hPc : hasPc x.kind = pk at *
  generalize hE : hasErr x.kind = ek at *
  generalize hR : hasRest x.kind = rk at *
  have l1 := ld (get_set_self (o := .arr row .tight) (lt_of_get g1))
  have ke : Keep (fun b => b = h.length + 1) h1 (h1.set (h.length + 1) (.arr row .tight)) := Keep.set _ _ rfl
  have l0' := ld (ke.at g0 (by simp))
  have kk : Keep NoneOf h (h1.set (h.length + 1) (.arr row .tight)) := ((Keep.app _ _ _).trans k1).then ke fun b hb e => by omega
  have r1 : row[1]? = some (.bool tk) := by rw [x4]; rfl
  have r2 : row[2]? = some (.bool pk) := by rw [x4]; rfl
  have r3 : row[3]? = some (.bool ek) := by rw [x4]; rfl
  have r4 : row[4]? = some (.bool rk) := by rw [x4]; rfl
  generalize hH : h1.set (h.length + 1) (.arr row .tight) = H at *
  have hrl : row.length = 5 := by rw [x4]; rfl
  simp [hi, x1, x2, CV.cells, fits, st, hH, l0', l1, c0, c1, c2, c3, c4, c5, c6, r1, r2, r3, r4, hrl]
  obtain ⟨b1, hb1⟩ : ∃ b1, b1 = (decide (x.t < 0) || decide (1099511627776 < x.t) || (!tk && !decide (x.task = 0))) := ⟨_, rfl⟩
  obtain ⟨b2, hb2⟩ : ∃ b2, b2 = ((!pk && !decide (x.pc = 0)) || decide (x.pc < 0)) := ⟨_, rfl⟩
  obtain ⟨b3, hb3⟩ : ∃ b3, b3 = ((!ek && !decide (x.err = 0)) || decide (x.err < 0) || decide (18 < x.err) || (decide (x.kind = 2) && decide (x.err = 0))) := ⟨_, rfl⟩
  obtain ⟨b4, hb4⟩ : ∃ b4, b4 = ((!rk && (!decide (x.case = 0) || !decide (x.v = 0))) || decide (x.case < -1)) := ⟨_, rfl⟩
  have hB : evBad x = (b1 || b2 || b3 || b4) := by
    unfold evBad
    rw [hT, hPc, hE, hR, hb1, hb2, hb3, hb4]
    simp only [Bool.or_assoc]
  rw [hB]
  clear hB hP
  refine WO_cut (fun e' => e'.get 1 = some (.ptr h.length 0) ∧ e'.get 3 = some (.ptr (h.length + 1) 0) ∧ e'.get 17 = some (.bool b1)) ?_ ?_
  · rw [hb1]
    by_cases a1 : x.t < 0
    · simp [a1, l0', l1, c0, c1, c2, c3, c4, c5, c6, r1, r2, r3, r4]
    by_cases a2 : 1099511627776 < x.t
    · simp [a1, a2, l0', l1, c0, c1, c2, c3, c4, c5, c6, r1, r2, r3, r4]
    by_cases a3 : x.task = 0
    all_goals cases tk <;> simp [a1, a2, a3, l0', l1, c0, c1, c2, c3, c4, c5, c6, r1, r2, r3, r4]
  rintro e' ⟨q1, q2, q3⟩
  clear hb1
  cases b1 with
  | true =>
    simp [q1, q2, q3]
    exact kk
  | false =>
    simp [q1, q2, q3, l0', l1, c0, c1, c2, c3, c4, c5, c6, r1, r2, r3, r4]
    clear q1 q2 q3 e'
    refine WO_cut (fun e' => e'.get 1 = some (.ptr h.length 0) ∧ e'.get 3 = some (.ptr (h.length + 1) 0) ∧ e'.get 36 = some (.bool b2)) ?_ ?_
    · rw [hb2]
      by_cases a1 : x.pc = 0
      · cases pk <;> simp [a1, l0', l1, c0, c1, c2, c3, c4, c5, c6, r1, r2, r3, r4]
      · by_cases a2 : x.pc < 0
        all_goals cases pk <;> simp [a1, a2, l0', l1, c0, c1, c2, c3, c4, c5, c6, r1, r2, r3, r4]
    rintro e' ⟨q1, q2, q3⟩
    clear hb2
    cases b2 with
    | true =>
      simp [q1, q2, q3]
      exact kk
    | false =>
      simp [q1, q2, q3, l0', l1, c0, c1, c2, c3, c4, c5, c6, r1, r2, r3, r4]
      clear q1 q2 q3 e'
      refine WO_cut (fun e' => e'.get 1 = some (.ptr h.length 0) ∧ e'.get 3 = some (.ptr (h.length + 1) 0) ∧ e'.get 50 = some (.bool b3)) ?_ ?_
      · rw [hb3]
        by_cases a1 : x.err = 0
        · by_cases a4 : x.kind = 2
          all_goals cases ek <;> simp [a1, a4, l0', l1, c0, c1, c2, c3, c4, c5, c6, r1, r2, r3, r4]
        · by_cases a2 : x.err < 0
          · cases ek <;> simp [a1, a2, l0', l1, c0, c1, c2, c3, c4, c5, c6, r1, r2, r3, r4]
          · by_cases a3 : 18 < x.err
            · cases ek <;> simp [a1, a2, a3, l0', l1, c0, c1, c2, c3, c4, c5, c6, r1, r2, r3, r4]
            · by_cases a4 : x.kind = 2
              all_goals cases ek <;> simp [a1, a2, a3, a4, l0', l1, c0, c1, c2, c3, c4, c5, c6, r1, r2, r3, r4]
      rintro e' ⟨q1, q2, q3⟩
      clear hb3
      cases b3 with
      | true =>
        simp [q1, q2, q3]
        exact kk
      | false =>
        simp [q1, q2, q3, l0', l1, c0, c1, c2, c3, c4, c5, c6, r1, r2, r3, r4]
        clear q1 q2 q3 e'
        refine WO_cut (fun e' => e'.get 79 = some (.bool b4)) ?_ ?_
        · rw [hb4]
          by_cases a1 : x.case = 0
          · by_cases a2 : x.v = 0
            all_goals cases rk <;> simp [a1, a2, l0', l1, c0, c1, c2, c3, c4, c5, c6, r1, r2, r3, r4]
          · by_cases a3 : x.case < -1
            all_goals cases rk <;> simp [a1, a3, l0', l1, c0, c1, c2, c3, c4, c5, c6, r1, r2, r3, r4]
        rintro e' q1
        clear hb4
        cases b4 with
        | true =>
          simp [q1]
          exact kk
        | false =>
          simp [q1]
          exact kk

theorem refCheck_spec (lp : LP p) {x : EvV} {h : Heap} : WF p 110 [.agg (evL x)] h fun r h' => r = .int .i64 (evCheckP x) ∧ Keep NoneOf h h' := by
  refine WF_of (by rw [lp.pg]; exact S.pg110) (lp.no ⟨rfl, rfl⟩) ?_
  show W p S.b110 _ _ (retQ [.t 2] _)
  unfold S.b110
  obtain ⟨C, hC⟩ : ∃ C, C = evL x := ⟨_, rfl⟩
  have c0 : C[0]? = some (.int .i64 x.t) := by subst hC; rfl
  have c1 : C[1]? = some (.int .i64 x.kind) := by subst hC; rfl
  have c2 : C[2]? = some (.int .i64 x.task) := by subst hC; rfl
  have c3 : C[3]? = some (.int .i64 x.pc) := by subst hC; rfl
  have c4 : C[4]? = some (.int .i64 x.err) := by subst hC; rfl
  have c5 : C[5]? = some (.int .i64 x.case) := by subst hC; rfl
  have c6 : C[6]? = some (.int .i64 x.v) := by subst hC; rfl
  have kk : Keep NoneOf h (h ++ [.arr C .tight]) := Keep.app _ _ _
  rw [← hC]
  by_cases k0 : x.kind < 1
  · rw [show evCheckP x = 3 by simp [evCheckP, k0]]
    simp [CV.cells, one0, c1, k0]
    exact kk
  by_cases k8 : 8 < x.kind
  · rw [show evCheckP x = 3 by simp [evCheckP, k8]]
    simp [CV.cells, one0, c1, k0, k8]
    exact kk
  have l0 : ∀ o, loadAt (h ++ [.arr C .tight]) h.length o none = C[o]? := fun o => one0 o
  have hP : evCheckP x = if evBad x then 1 else 0 := by simp [evCheckP, k0, k8]
  rw [hP]
  obtain ⟨b1, hb1⟩ : ∃ b1, b1 = (decide (x.t < 0) || decide (1099511627776 < x.t)) := ⟨_, rfl⟩
  obtain ⟨b2, hb2⟩ : ∃ b2, b2 = (decide (x.kind = 8) && !decide (x.task = 0)) := ⟨_, rfl⟩
  obtain ⟨b3, hb3⟩ : ∃ b3, b3 = (!decide (x.kind = 4) && !decide (x.kind = 5) && !decide (x.pc = 0)) := ⟨_, rfl⟩
  obtain ⟨b4, hb4⟩ : ∃ b4, b4 = (!decide (x.kind = 2) && !decide (x.kind = 4) && !decide (x.err = 0)) := ⟨_, rfl⟩
  obtain ⟨b5, hb5⟩ : ∃ b5, b5 = (!decide (x.kind = 4) && (!decide (x.case = 0) || !decide (x.v = 0))) := ⟨_, rfl⟩
  obtain ⟨b6, hb6⟩ : ∃ b6, b6 = (decide (x.pc < 0) || decide (x.case < -1) || (decide (x.kind = 2) && decide (x.err = 0)) || decide (x.err < 0) || decide (18 < x.err)) := ⟨_, rfl⟩
  have hB : evBad x = (b1 || b2 || b3 || b4 || b5 || b6) := by
    rw [hb1, hb2, hb3, hb4, hb5, hb6]
    unfold evBad hasTask hasPc hasErr hasRest
    generalize decide (x.t < 0) = y1
    generalize decide (1099511627776 < x.t) = y2
    generalize decide (x.kind = 8) = y3
    generalize decide (x.task = 0) = y4
    generalize decide (x.kind = 4) = y5
    generalize decide (x.kind = 5) = y6
    generalize decide (x.pc = 0) = y7
    generalize decide (x.kind = 2) = y8
    generalize decide (x.err = 0) = y9
    generalize decide (x.case = 0) = y10
    generalize decide (x.v = 0) = y11
    generalize decide (x.pc < 0) = y12
    generalize decide (x.case < -1) = y13
    generalize decide (x.err < 0) = y14
    generalize decide (18 < x.err) = y15
    cases y1 <;> cases y2 <;> cases y12 <;> cases y13 <;> cases y14 <;> cases y15 <;> simp
    revert y3 y4 y5 y6 y7 y8 y9 y10 y11
    decide
  obtain ⟨B, hBB⟩ : ∃ B, B = (b1 || b2 || b3 || b4 || b5 || b6) := ⟨_, rfl⟩
  rw [hB, ← hBB]
  clear hB hP hC
  simp [CV.cells, l0, c0, c1, c2, c3, c4, c5, c6, k0, k8]
  refine WO_cutAt 5 (fun e' => e'.get 1 = some (.ptr h.length 0) ∧ e'.get 19 = some (.bool b1)) ?_ ?_
  · rw [hb1]
    by_cases a1 : x.t < 0
    · simp [a1, l0, c0, c1, c2, c3, c4, c5, c6]
    by_cases a2 : 1099511627776 < x.t
    all_goals simp [a1, a2, l0, c0, c1, c2, c3, c4, c5, c6]
  rintro e' ⟨q1, q3⟩
  clear hb1
  refine WO_cutAt 10 (fun e' => e'.get 1 = some (.ptr h.length 0) ∧ e'.get 29 = some (.bool (b1 || b2))) ?_ ?_
  · rw [hb2]
    cases b1 with
    | true => simp [q1, q3]
    | false =>
      by_cases a1 : x.kind = 8
      · by_cases a2 : x.task = 0
        all_goals simp [q1, q3, a1, a2, l0, c0, c1, c2, c3, c4, c5, c6]
      · simp [q1, q3, a1, l0, c0, c1, c2, c3, c4, c5, c6]
  clear q1 q3 e'
  generalize hy : (b1 || b2) = y
  rintro e' ⟨q1, q3⟩
  clear hb2
  refine WO_cutAt 15 (fun e' => e'.get 1 = some (.ptr h.length 0) ∧ e'.get 44 = some (.bool (y || b3))) ?_ ?_
  · rw [hb3]
    cases y with
    | true => simp [q1, q3]
    | false =>
      by_cases a1 : x.kind = 4
      · simp [q1, q3, a1, l0, c0, c1, c2, c3, c4, c5, c6]
      · by_cases a2 : x.kind = 5
        · simp [q1, q3, a1, a2, l0, c0, c1, c2, c3, c4, c5, c6]
        · by_cases a3 : x.pc = 0
          all_goals simp [q1, q3, a1, a2, a3, l0, c0, c1, c2, c3, c4, c5, c6]
  clear q1 q3 e'
  generalize hz : (y || b3) = z
  rintro e' ⟨q1, q3⟩
  clear hb3
  refine WO_cutAt 15 (fun e' => e'.get 1 = some (.ptr h.length 0) ∧ e'.get 59 = some (.bool (z || b4))) ?_ ?_
  · rw [hb4]
    cases z with
    | true => simp [q1, q3]
    | false =>
      by_cases a1 : x.kind = 2
      · simp [q1, q3, a1, l0, c0, c1, c2, c3, c4, c5, c6]
      · by_cases a2 : x.kind = 4
        · simp [q1, q3, a1, a2, l0, c0, c1, c2, c3, c4, c5, c6]
        · by_cases a3 : x.err = 0
          all_goals simp [q1, q3, a1, a2, a3, l0, c0, c1, c2, c3, c4, c5, c6]
  clear q1 q3 e'
  generalize hu : (z || b4) = u
  rintro e' ⟨q1, q3⟩
  clear hb4
  refine WO_cut (fun e' => e'.get 1 = some (.ptr h.length 0) ∧ e'.get 73 = some (.bool (u || b5))) ?_ ?_
  · rw [hb5]
    cases u with
    | true => simp [q1, q3]
    | false =>
      by_cases a1 : x.kind = 4
      · simp [q1, q3, a1, l0, c0, c1, c2, c3, c4, c5, c6]
      · by_cases a2 : x.case = 0
        · by_cases a3 : x.v = 0
          all_goals simp [q1, q3, a1, a2, a3, l0, c0, c1, c2, c3, c4, c5, c6]
        · simp [q1, q3, a1, a2, l0, c0, c1, c2, c3, c4, c5, c6]
  clear q1 q3 e'
  generalize hw : (u || b5) = w
  rintro e' ⟨q1, q3⟩
  clear hb5
  rw [hy, hz, hu, hw] at hBB
  clear hy hz hu hw
  cases w with
  | true =>
    obtain rfl : B = true := by rw [hBB]; rfl
    simp [q1, q3]
    exact kk
  | false =>
    simp [q1, q3, l0, c0, c1, c2, c3, c4, c5, c6]
    clear q1 q3 e'
    refine WO_cut (fun e' => e'.get 101 = some (.bool b6)) ?_ ?_
    · rw [hb6]
      by_cases a1 : x.pc < 0
      · simp [a1, l0, c0, c1, c2, c3, c4, c5, c6]
      by_cases a2 : x.case < -1
      · simp [a1, a2, l0, c0, c1, c2, c3, c4, c5, c6]
      by_cases a3 : x.kind = 2
      · by_cases a4 : x.err = 0
        · simp [a1, a2, a3, a4, l0, c0, c1, c2, c3, c4, c5, c6]
        · by_cases a5 : x.err < 0
          · simp [a1, a2, a3, a4, a5, l0, c0, c1, c2, c3, c4, c5, c6]
          · by_cases a6 : 18 < x.err
            all_goals simp [a1, a2, a3, a4, a5, a6, l0, c0, c1, c2, c3, c4, c5, c6]
      · by_cases a5 : x.err < 0
        · simp [a1, a2, a3, a5, l0, c0, c1, c2, c3, c4, c5, c6]
        · by_cases a6 : 18 < x.err
          all_goals simp [a1, a2, a3, a5, a6, l0, c0, c1, c2, c3, c4, c5, c6]
    rintro e' q1
    clear hb6
    rw [Bool.false_or] at hBB
    subst hBB
    cases B with
    | true =>
      simp [q1]
      exact kk
    | false =>
      simp [q1]
      exact kk

end Go.Cl

namespace Go.Cl
open Go
set_option linter.unusedSimpArgs false
set_option linter.unusedVariables false
set_option maxHeartbeats 4000000

variable {p : PP}

/-- numbers of 64 bits -/
structure EvV.In (x : EvV) : Prop where
  t : inI x.t
  kind : inI x.kind
  task : inI x.task
  pc : inI x.pc
  err : inI x.err
  case : inI x.case
  v : inI x.v

theorem joinC_le {c : UInt8} {n : Nat} : ∀ (l : List Wd), (∀ w ∈ l, w.length ≤ n) → (joinC c l).length ≤ l.length * (n + 1)
  | [], _ => by simp [joinC]
  | [w], h => by have := h w (by simp); simp [joinC]; omega
  | w :: v :: r, h => by
    have ih := joinC_le (c := c) (v :: r) fun u hu => h u (by simp [hu])
    have := h w (by simp)
    rw [joinC_cons (by simp)]
    simp only [List.length_append, List.length_cons] at ih ⊢
    rw [Nat.succ_mul]
    omega

theorem evWord_len (k : Int) : (evWord k).length ≤ 7 := by
  unfold evWord
  repeat' split
  all_goals decide

theorem evWords_len (x : EvV) : (evWords x).length ≤ 7 ∧ ∀ w ∈ evWords x, w.length ≤ 21 := by
  unfold evWords evTail
  have i := fun n => itoa_len n
  have j := evWord_len x.kind
  constructor
  · cases hasTask x.kind <;> cases hasPc x.kind <;> cases hasErr x.kind <;> cases hasRest x.kind <;> simp
  · intro w hw
    simp only [List.mem_cons, List.mem_append] at hw
    rcases hw with rfl | rfl | hw | hw | hw | hw
    · exact i _
    · omega
    all_goals
      split at hw
      · simp at hw
        first
        | (subst hw; exact i _)
        | (rcases hw with rfl | rfl <;> exact i _)
      · simp at hw

theorem evWords_join {x : EvV} : (joinC 32 (evWords x)).length ≤ 154 := by
  have h := evWords_len x
  have := joinC_le (c := 32) (n := 21) (evWords x) h.2
  have : (evWords x).length * (21 + 1) ≤ 7 * 22 := Nat.mul_le_mul_right _ h.1
  omega

def TxtI (h : Heap) (C R : List CV) (l : List Wd) (e : Env) (h' : Heap) : Prop :=
  ∃ v r, e = (1, .ptr h.length 0) :: (3, .ptr (h.length + 1) 0) :: (4, v) :: r ∧ Keep NoneOf h h' ∧ h'[h.length]? = some (.arr C .tight) ∧ h'[h.length + 1]? = some (.arr R .tight) ∧ OwnL .str h' NoneOf v l ∧ (∀ b, v.blk = some b → h.length + 2 ≤ b)

def TxtJ (h : Heap) (l : List Wd) (e : Env) (h' : Heap) : Prop := ∃ v k0 v0 r, e = (k0, v0) :: r ∧ Env.get ((k0, v0) :: r) 4 = some v ∧ Keep NoneOf h h' ∧ OwnL .str h' NoneOf v l

theorem txt_push {h h1 : Heap} {v : CV} {l ys : List Wd} {K : CV × Heap → Prop} {n : Nat} (hn : n = ys.length) (k1 : Keep NoneOf h h1) (ow : OwnL .str h1 NoneOf v l) (hv : ∀ b, v.blk = some b → h.length + 2 ≤ b) (hl : l.length ≤ 100) (hy : ys.length ≤ 100)
    (kk : ∀ v' h2, OwnL .str h2 NoneOf v' (l ++ ys) → Keep NoneOf h h2 → Keep (fun b => h.length + 2 ≤ b) h1 h2 → (∀ b, v'.blk = some b → h.length + 2 ≤ b) → K (v', h2)) (hh : h.length + 2 ≤ h1.length) :
    OV (appendTo (h1 ++ [.arr (ys.map .str) .tight]) 1 v n (ys.map .str)) K := by
  refine OV_pushes (e := .str) (m := ys) (ow.on (Keep.app _ _ _)) rows_strs hn (fun _ hb => hb.elim) (by simp [big]; omega) (by simp [big]; omega) (by decide) ?_
  intro v' h2 o2 k2 hb2
  have hb3 : ∀ b, v'.blk = some b → h.length + 2 ≤ b := fun b hb => by
    rcases hb2 b hb with q | q
    · exact hv b q
    · simp at q; omega
  refine kk v' h2 o2 ((k1.trans (Keep.app _ _ _)).then k2 fun b hb e => by have := hv b e; omega) ?_ hb3
  exact ((Keep.app _ _ _).then k2 fun b hb e => hv b e)

theorem evText_spec (lp : LP p) {x : EvV} {h : Heap} (hx : x.In) : WF p 111 [.agg (evL x)] h fun r h' => r = .str (evText x) ∧ Keep NoneOf h h' := by
  refine WF_of (by rw [lp.pg]; exact S.pg111) (lp.no ⟨rfl, rfl⟩) ?_
  show W p S.b111 _ _ (retQ [.t 2] _)
  unfold S.b111
  by_cases k0 : x.kind < 1
  · rw [show evText x = [] by simp [evText, k0]]
    simp [CV.cells, one0, evL_0, evL_1, evL_2, evL_3, evL_4, evL_5, evL_6, k0]
    exact Keep.app _ _ _
  by_cases k8 : 8 < x.kind
  · rw [show evText x = [] by simp [evText, k8]]
    simp [CV.cells, one0, evL_0, evL_1, evL_2, evL_3, evL_4, evL_5, evL_6, k0, k8]
    exact Keep.app _ _ _
  obtain ⟨C, hC⟩ : ∃ C, C = evL x := ⟨_, rfl⟩
  have c0 : C[0]? = some (.int .i64 x.t) := by subst hC; rfl
  have c1 : C[1]? = some (.int .i64 x.kind) := by subst hC; rfl
  have c2 : C[2]? = some (.int .i64 x.task) := by subst hC; rfl
  have c3 : C[3]? = some (.int .i64 x.pc) := by subst hC; rfl
  have c4 : C[4]? = some (.int .i64 x.err) := by subst hC; rfl
  have c5 : C[5]? = some (.int .i64 x.case) := by subst hC; rfl
  have c6 : C[6]? = some (.int .i64 x.v) := by subst hC; rfl
  have hP : evText x = joinC 32 (evWords x) := by simp [evText, k0, k8]
  rw [hP, ← hC]
  simp [CV.cells, one0, two0, c0, c1, c2, c3, c4, c5, c6, k0, k8]
  refine WO_re_n ?_
  simp
  refine (shapes_spec lp).mono ?_
  rintro r h1 ⟨v, rfl, sl, k1⟩
  have g0 := k1.at (b := h.length) (o := .arr C .tight) (by simp) id
  have g1 := k1.at (b := h.length + 1) (o := .arr [.str [], .bool false, .bool false, .bool false, .bool false] .tight) (by simp) id
  have l0 := ld g0
  refine ⟨fun c => by simp [recheckB, wanted, Env.get, cls, evOp, Opd.ev, withH, CV.eqb, l0, c1], ?_⟩
  obtain ⟨i, hi⟩ := Int.eq_ofNat_of_zero_le (by omega : 0 ≤ x.kind)
  have hi9 : i < shapesL.length := by show i < 9; omega
  obtain ⟨b0, o0, row, x1, x2, x3, x4⟩ := sl.row (k := .i64) (by decide) hi9
  rw [shape_at (by omega) hi9, ← hi] at x4
  have x4 : row = shL ⟨evWord x.kind, hasTask x.kind, hasPc x.kind, hasErr x.kind, hasRest x.kind⟩ := x4
  simp only [shC] at x1 x2 x3
  rw [← hi] at x1
  have st := sto g1 (vs := row) (by rw [x4]; rfl) (by rw [x4]; rfl)
  have hfit : fits (some 5) (.agg row) = true := by rw [x4]; rfl
  have l1 := ld (get_set_self (o := .arr row .tight) (lt_of_get g1))
  have ke : Keep (fun b => b = h.length + 1) h1 (h1.set (h.length + 1) (.arr row .tight)) := Keep.set _ _ rfl
  have g0' := ke.at g0 (by simp)
  have g1' := get_set_self (o := .arr row .tight) (lt_of_get g1)
  have l0' := ld g0'
  have kk : Keep NoneOf h (h1.set (h.length + 1) (.arr row .tight)) := ((Keep.app _ _ _).trans k1).then ke fun b hb e => by omega
  have r0 : row[0]? = some (.str (evWord x.kind)) := by rw [x4]; rfl
  have r1 : row[1]? = some (.bool (hasTask x.kind)) := by rw [x4]; rfl
  have r2 : row[2]? = some (.bool (hasPc x.kind)) := by rw [x4]; rfl
  have r3 : row[3]? = some (.bool (hasErr x.kind)) := by rw [x4]; rfl
  have r4 : row[4]? = some (.bool (hasRest x.kind)) := by rw [x4]; rfl
  have hHl : h.length + 2 ≤ (h1.set (h.length + 1) (.arr row .tight)).length := by have := k1.len; simp at this ⊢; omega
  generalize hH : h1.set (h.length + 1) (.arr row .tight) = H at *
  simp [x1, x2, CV.cells, hfit, st, hH, l0', l1, c0, c1, c2, c3, c4, c5, c6, r0, r1, r2, r3, r4]
  refine WO_re_n ?_
  simp
  refine (wordText_spec lp hx.t.1 hx.t.2).mono ?_
  rintro r h2 ⟨rfl, rfl⟩
  refine ⟨fun c => by simp [recheckB, wanted, Env.get, cls, evOp, Opd.ev, withH, CV.eqb, l1, r0, CV.eqb_refl], ?_⟩
  have gg0 : (h2 ++ [Obj.arr [.str (itoa x.t), .str (evWord x.kind)] .tight])[h.length]? = some (.arr C .tight) := by rw [List.getElem?_append_left (lt_of_get g0')]; exact g0'
  have gg1 : (h2 ++ [Obj.arr [.str (itoa x.t), .str (evWord x.kind)] .tight])[h.length + 1]? = some (.arr row .tight) := by rw [List.getElem?_append_left (lt_of_get g1')]; exact g1'
  have m0 := ld gg0
  have m1 := ld gg1
  simp [fillC, splice, m0, m1, r1]
  -- what all four groups want
  have push : ∀ {h1 : Heap} {v : CV} {l ys : List Wd} {n : Nat} {K : CV × Heap → Prop}, n = ys.length → Keep NoneOf h h1 → h1[h.length]? = some (.arr C .tight) → h1[h.length + 1]? = some (.arr row .tight) → OwnL .str h1 NoneOf v l → (∀ b, v.blk = some b → h.length + 2 ≤ b) → l.length ≤ 100 → ys.length ≤ 100 →
      (∀ v' h2, Keep NoneOf h h2 → h2[h.length]? = some (.arr C .tight) → h2[h.length + 1]? = some (.arr row .tight) → OwnL .str h2 NoneOf v' (l ++ ys) → (∀ b, v'.blk = some b → h.length + 2 ≤ b) → K (v', h2)) →
      OV (appendTo (h1 ++ [.arr (ys.map .str) .tight]) 1 v n (ys.map .str)) K := by
    intro h1 v l ys n K hn k1 e0 e1 ow hv hl hy kk
    refine txt_push hn k1 ow hv hl hy ?_ (by have := lt_of_get e1; omega)
    intro v' h2 o2 k2 k3 hb
    exact kk v' h2 k2 (k3.at e0 (by omega)) (k3.at e1 (by omega)) o2 hb
  have K1 : Keep NoneOf h (h2 ++ [Obj.arr [.str (itoa x.t), .str (evWord x.kind)] .tight]) := kk.trans (Keep.app _ _ _)
  have ow : OwnL .str (h2 ++ [Obj.arr [.str (itoa x.t), .str (evWord x.kind)] .tight]) NoneOf (.sl h2.length 0 2 2) [itoa x.t, evWord x.kind] := by
    refine ⟨_, .inr ⟨h2.length, 2, .tight, rfl, ?_, .inl rfl, by simp⟩, rows_strs, fun b hb hn => hn⟩
    rfl
  have hv : ∀ b, (CV.sl h2.length 0 2 2).blk = some b → h.length + 2 ≤ b := fun b hb => by simp [CV.blk] at hb; omega
  have hW : evWords x = [itoa x.t, evWord x.kind] ++ ((if hasTask x.kind then [itoa x.task] else []) ++ ((if hasPc x.kind then [itoa x.pc] else []) ++ ((if hasErr x.kind then [itoa x.err] else []) ++ (if hasRest x.kind then [itoa x.case, itoa x.v] else [])))) := rfl
  generalize h2 ++ [Obj.arr [.str (itoa x.t), .str (evWord x.kind)] .tight] = G at *
  generalize CV.sl h2.length 0 2 2 = v0 at *
  -- the task
  refine W_to (TxtI h C row ([itoa x.t, evWord x.kind] ++ if hasTask x.kind then [itoa x.task] else [])) ?_ ?_
  · cases hasTask x.kind with
    | false =>
      simp
      exact ⟨v0, _, rfl, K1, gg0, gg1, by simpa using ow, hv⟩
    | true =>
      simp [m0, c2]
      refine (wordText_spec lp hx.task.1 hx.task.2).mono ?_
      rintro r h3 ⟨rfl, rfl⟩
      simp [fillC, splice, CV.cells, spread, cellsAt]
      refine push (ys := [itoa x.task]) rfl K1 gg0 gg1 ow hv (by simp) (by simp) ?_
      intro v' h4 k4 e0 e1 o4 hb4
      simp
      exact ⟨v', _, rfl, k4, e0, e1, by simpa using o4, hb4⟩
  clear K1 gg0 gg1 ow hv m0 m1
  rintro e h3 ⟨v3, r3x, rfl, k3, e0, e1, o3, hb3⟩
  have m0 := ld e0
  have m1 := ld e1
  have hl3 : ([itoa x.t, evWord x.kind] ++ if hasTask x.kind then [itoa x.task] else []).length ≤ 3 := by split <;> simp
  rw [← List.append_assoc] at hW
  generalize ([itoa x.t, evWord x.kind] ++ if hasTask x.kind then [itoa x.task] else []) = l3 at *
  simp [m1, r2]
  -- the step
  refine W_to (TxtI h C row (l3 ++ if hasPc x.kind then [itoa x.pc] else [])) ?_ ?_
  · cases hasPc x.kind with
    | false =>
      simp
      exact ⟨v3, _, rfl, k3, e0, e1, by simpa using o3, hb3⟩
    | true =>
      simp [m0, c3]
      refine (wordText_spec lp hx.pc.1 hx.pc.2).mono ?_
      rintro r h4 ⟨rfl, rfl⟩
      simp [fillC, splice, CV.cells, spread, cellsAt]
      refine push (ys := [itoa x.pc]) rfl k3 e0 e1 o3 hb3 (by omega) (by simp) ?_
      intro v' h4 k4 e0 e1 o4 hb4
      simp
      exact ⟨v', _, rfl, k4, e0, e1, by simpa using o4, hb4⟩
  clear k3 e0 e1 o3 hb3 m0 m1
  rintro e h4 ⟨v4, r4x, rfl, k4, e0, e1, o4, hb4⟩
  have m0 := ld e0
  have m1 := ld e1
  have hl4 : (l3 ++ if hasPc x.kind then [itoa x.pc] else []).length ≤ 4 := by split <;> simp <;> omega
  rw [← List.append_assoc] at hW
  generalize (l3 ++ if hasPc x.kind then [itoa x.pc] else []) = l4 at *
  simp [m1, r3]
  -- the error
  refine W_to (TxtI h C row (l4 ++ if hasErr x.kind then [itoa x.err] else [])) ?_ ?_
  · cases hasErr x.kind with
    | false =>
      simp
      exact ⟨v4, _, rfl, k4, e0, e1, by simpa using o4, hb4⟩
    | true =>
      simp [m0, c4]
      refine (wordText_spec lp hx.err.1 hx.err.2).mono ?_
      rintro r h5 ⟨rfl, rfl⟩
      simp [fillC, splice, CV.cells, spread, cellsAt]
      refine push (ys := [itoa x.err]) rfl k4 e0 e1 o4 hb4 (by omega) (by simp) ?_
      intro v' h4 k4 e0 e1 o4 hb4
      simp
      exact ⟨v', _, rfl, k4, e0, e1, by simpa using o4, hb4⟩
  clear k4 e0 e1 o4 hb4 m0 m1
  rintro e h5 ⟨v5, r5x, rfl, k5, e0, e1, o5, hb5⟩
  have m0 := ld e0
  have m1 := ld e1
  have hl5 : (l4 ++ if hasErr x.kind then [itoa x.err] else []).length ≤ 5 := by split <;> simp <;> omega
  rw [← List.append_assoc] at hW
  generalize (l4 ++ if hasErr x.kind then [itoa x.err] else []) = l5 at *
  simp [m1, r4]
  -- the rest
  refine W_to (TxtJ h (evWords x)) ?_ ?_
  · rw [hW]
    cases hasRest x.kind with
    | false =>
      simp
      exact ⟨v5, _, _, _, rfl, by simp, k5, by simpa using o5⟩
    | true =>
      simp [m0, c5, c6]
      refine WO_re_n ?_
      simp
      refine (wordText_spec lp hx.case.1 hx.case.2).mono ?_
      rintro r h6 ⟨rfl, rfl⟩
      refine ⟨fun c => by simp [recheckB, wanted, Env.get, cls, evOp, Opd.ev, withH, CV.eqb, m0, c6, CV.eqb_refl], ?_⟩
      refine (wordText_spec lp hx.v.1 hx.v.2).mono ?_
      rintro r h6 ⟨rfl, rfl⟩
      simp [fillC, splice, CV.cells, spread, cellsAt]
      refine push (ys := [itoa x.case, itoa x.v]) rfl k5 e0 e1 o5 hb5 (by omega) (by simp) ?_
      intro v' h4 k4 e0 e1 o4 hb4
      simp
      exact ⟨v', _, _, _, rfl, by simp, k4, o4⟩
  clear k5 e0 e1 o5 hb5 m0 m1
  rintro e h6 ⟨v6, k0x, v0x, r6x, rfl, q4, k6, o6⟩
  simp only [Env.get_cons] at q4
  simp [q4]
  have hlen : (evWords x).length ≤ 140737488355328 := by
    rw [hW, List.length_append]
    split <;> simp <;> omega
  refine (join_spec lp o6.sl hlen (by have := evWords_join (x := x); omega)).mono ?_
  rintro r h7 ⟨rfl, rfl⟩
  simp
  exact k6

end Go.Cl

namespace Go.Cl
open Go
set_option linter.unusedSimpArgs false
set_option linter.unusedVariables false
set_option maxHeartbeats 4000000

variable {p : PP}

theorem OV_if {α : Type} {c : Prop} [Decidable c] {o : Option α} {K : α → Prop} : OV (if c then o else none) K = (c ∧ OV o K) := by
  by_cases h : c <;> simp [h]

theorem evText_len (x : EvV) : (evText x).length ≤ 154 := by
  unfold evText
  split
  · simp
  · exact evWords_join

def LnI (v : CV) (l : List EvV) (h : Heap) (m : Nat) (e : Env) (h' : Heap) : Prop :=
  ∃ i : Nat, i ≤ l.length ∧ m = l.length - i ∧ e = [(3, .ptr h.length 0), (6, v), (7, .int .i64 l.length), (8, .int .i64 i)] ∧ Keep NoneOf h h' ∧ BldIs h.length h' h.length (linesOf ((l.take i).map evText))

theorem linesOf_le : ∀ (l : List Wd) (n : Nat), (∀ w ∈ l, w.length ≤ n) → (linesOf l).length ≤ l.length * (n + 1)
  | [], n, _ => by simp [linesOf]
  | w :: r, n, h => by
    have ih := linesOf_le r n fun u hu => h u (by simp [hu])
    have := h w (by simp)
    simp only [linesOf, List.flatMap_cons, List.length_append, List.length_cons, List.length_nil] at ih ⊢
    rw [Nat.succ_mul]
    omega

theorem evLines_spec (lp : LP p) {v : CV} {l : List EvV} {h : Heap} {P : Nat → Prop} (s : Sl evtC h P v l) (hl : l.length ≤ 1000000) (hI : ∀ x ∈ l, x.In) :
    WF p 114 [v] h fun r h' => r = .str (linesOf (l.map evText)) ∧ Keep NoneOf h h' := by
  refine WF_of (by rw [lp.pg]; exact S.pg114) (lp.no ⟨rfl, rfl⟩) ?_
  show W p S.b114 _ _ (retQ [.t 2] _)
  unfold S.b114
  have n0 := (s.on (Keep.app _ h [Obj.bld 5 none])).len (by decide)
  simp [n0]
  refine W_loop (LnI v l h) ?_ l.length ⟨0, by omega, by omega, rfl, Keep.app _ _ _, Nat.le_refl _, .inl ⟨rfl, by simp [tBld]⟩⟩
  rintro m e h1 ⟨i, hi, rfl, rfl, k1, b1⟩
  by_cases hie : i = l.length
  · subst hie
    rw [List.take_length] at b1
    simp
    refine (bldString_spec lp b1).mono ?_
    rintro r h2 ⟨rfl, rfl⟩
    simp
    exact k1
  · have hlt : i < l.length := by omega
    have hlt' : (i : Int) < l.length := by omega
    obtain ⟨bb, o, row, x1, x2, x3, x4⟩ := (s.on k1).row (k := .i64) (by decide) hlt
    have x4 : row = evL l[i] := x4
    subst x4
    simp only [evtC] at x1 x2
    have x2' := load_on x2 (Keep.app NoneOf h1 [.arr [.int .i64 0, .int .i64 0, .int .i64 0, .int .i64 0, .int .i64 0, .int .i64 0, .int .i64 0] .tight]) (some 7) o
    rw [x2] at x2'
    have hw : IntKind.i64.wrap ((i : Int) + 1) = ((i + 1 : Nat) : Int) := by rw [w64 (by omega) (by omega)]; omega
    have st := store_new (h := h1) (row := evL l[i]) (z := [.int .i64 0, .int .i64 0, .int .i64 0, .int .i64 0, .int .i64 0, .int .i64 0, .int .i64 0]) rfl rfl
    have ln := load_new (h := h1) (row := evL l[i]) (n := 7) rfl
    have hfit : fits (some 7) (.agg (evL l[i])) = true := rfl
    have hx := hI l[i] (List.getElem_mem hlt)
    have htl := evText_len l[i]
    simp [hlt', x1, x2, x2', CV.cells, hfit, st, ln]
    refine (evText_spec lp hx).mono ?_
    rintro r h2 ⟨rfl, k2⟩
    have K2 : Keep NoneOf h1 h2 := (Keep.app _ _ _).trans k2
    have hnext : linesOf ((l.take (i + 1)).map evText) = linesOf ((l.take i).map evText) ++ (evText l[i] ++ [10]) := by
      rw [List.take_add_one, List.getElem?_eq_getElem hlt, Option.toList_some, List.map_append, List.map_singleton, linesOf_snoc, List.append_assoc]
    have hle : (linesOf ((l.take i).map evText)).length ≤ 155000000 := by
      have a := linesOf_le ((l.take i).map evText) 154 fun w hw => by
        obtain ⟨y, _, rfl⟩ := List.mem_map.1 hw
        exact evText_len y
      have : ((l.take i).map evText).length ≤ 1000000 := by simp; omega
      omega
    generalize linesOf ((l.take i).map evText) = acc at *
    simp [OV_if]
    refine ⟨by omega, ?_⟩
    refine bldWrite_spec lp (b1.on K2) (by simp) (by simp; omega) ?_
    intro h3 b3 hl3 hk3
    have K3 : Keep NoneOf h h3 := ⟨by have := k1.len; have := K2.len; omega, fun i hi _ => (hk3 i hi).trans (((k1.trans K2).get i hi) id)⟩
    simp [hw]
    refine ⟨l.length - (i + 1), by omega, i + 1, by omega, rfl, rfl, K3, ?_⟩
    rw [hnext]
    exact b3

/-! ### the document's -/

def namesL : List Wd := [[], vRelease, vRefuse, vRuns, vResult, vWaits, vDone, vAbort, vIdle]

theorem name_at {i : Nat} (h0 : 1 ≤ i) (h1 : i < 9) : namesL[i]'h1 = evWord i := by
  have : i = 1 ∨ i = 2 ∨ i = 3 ∨ i = 4 ∨ i = 5 ∨ i = 6 ∨ i = 7 ∨ i = 8 := by omega
  rcases this with rfl | rfl | rfl | rfl | rfl | rfl | rfl | rfl <;> rfl

theorem names_spec (lp : LP p) {h : Heap} : WF p 135 [] h fun r h' => ∃ v, r = v ∧ Sl .str h' (From h) v namesL ∧ Keep NoneOf h h' := by
  refine WF_of (by rw [lp.pg]; exact S.pg135) (lp.no ⟨rfl, rfl⟩) ?_
  show W p S.b135 _ _ (retQ [.t 0] _)
  unfold S.b135
  simp [fillC, splice, CV.cells]
  refine ⟨?_, Keep.app _ _ _⟩
  exact Sl.fresh (e := .str) (l := namesL) (rows_strs (l := namesL)) rfl

theorem refText_spec (lp : LP p) {x : EvV} {h : Heap} (hx : x.In) (k0 : 1 ≤ x.kind) (k8 : x.kind ≤ 8) : WF p 113 [.agg (evL x)] h fun r h' => r = .str (evText x) ∧ Keep NoneOf h h' := by
  refine WF_of (by rw [lp.pg]; exact S.pg113) (lp.no ⟨rfl, rfl⟩) ?_
  show W p S.b113 _ _ (retQ [.t 2] _)
  unfold S.b113
  obtain ⟨C, hC⟩ : ∃ C, C = evL x := ⟨_, rfl⟩
  have c0 : C[0]? = some (.int .i64 x.t) := by subst hC; rfl
  have c1 : C[1]? = some (.int .i64 x.kind) := by subst hC; rfl
  have c2 : C[2]? = some (.int .i64 x.task) := by subst hC; rfl
  have c3 : C[3]? = some (.int .i64 x.pc) := by subst hC; rfl
  have c4 : C[4]? = some (.int .i64 x.err) := by subst hC; rfl
  have c5 : C[5]? = some (.int .i64 x.case) := by subst hC; rfl
  have c6 : C[6]? = some (.int .i64 x.v) := by subst hC; rfl
  rw [← hC]
  have i0 := itoa_len x.t
  have i1 := itoa_len x.task
  have i2 := itoa_len x.pc
  have i3 := itoa_len x.err
  have i4 := itoa_len x.case
  have i5 := itoa_len x.v
  have i6 := evWord_len x.kind
  have hT : evText x = joinC 32 (itoa x.t :: evWord x.kind :: evTail x) := by
    unfold evText
    rw [if_neg (by omega)]
    rfl
  have hnm : ∀ {i : Nat} (h1 : i < namesL.length), x.kind = i → namesL[i] = evWord x.kind := fun {i} h1 e => by rw [name_at (by omega) h1, e]
  generalize evWord x.kind = ew at *
  simp [CV.cells, one0, c0, c1]
  refine WO_re_n ?_
  simp
  refine (refWord_spec lp _ _ _ (Nat.le_refl _) hx.t.1 hx.t.2).mono ?_
  rintro r h1 ⟨rfl, k1⟩
  have g0 := k1.at (b := h.length) (o := .arr C .tight) (by simp) id
  have l0 := ld g0
  refine ⟨fun c => by simp [recheckB, wanted, Env.get, cls, evOp, Opd.ev, withH, CV.eqb, l0, c1, CV.eqb_refl], ?_⟩
  simp [OV_if]
  refine ⟨by omega, ?_⟩
  refine WO_re_n ?_
  simp
  refine (names_spec lp).mono ?_
  rintro r h2 ⟨nv, rfl, sl, k2⟩
  have g0 := k2.at g0 id
  have l0 := ld g0
  refine ⟨fun c => by simp [recheckB, wanted, Env.get, cls, evOp, Opd.ev, withH, CV.eqb, l0, c1, CV.eqb_refl], ?_⟩
  obtain ⟨i, hi⟩ := Int.eq_ofNat_of_zero_le (by omega : 0 ≤ x.kind)
  have hi9 : i < namesL.length := by show i < 9; omega
  obtain ⟨b0, o0, row, x1, x2, x3, x4⟩ := sl.row (k := .i64) (by decide) hi9
  rw [hnm hi9 hi] at x4
  have x4 : row = [.str ew] := x4
  simp only [Cod.str] at x1 x2 x3
  rw [← hi] at x1
  have x5 := x3 0 (by decide)
  rw [x4] at x5
  simp at x5
  simp [x1, x5, OV_if]
  refine ⟨by omega, ?_⟩
  have K2 : Keep NoneOf h h2 := ((Keep.app _ _ _).trans k1).trans k2
  by_cases a8 : x.kind = 8
  · have hE : evText x = itoa x.t ++ 32 :: ew := by
      rw [hT]; simp [evTail, hasTask, hasPc, hasErr, hasRest, a8, joinC]
    rw [hE]
    simp [l0, c1, a8]
    exact K2
  simp [l0, c1, c2, a8, OV_if]
  refine ⟨by omega, ?_⟩
  refine (refWord_spec lp _ _ _ (Nat.le_refl _) hx.task.1 hx.task.2).mono ?_
  rintro r h3 ⟨rfl, k3⟩
  have g0 := k3.at g0 id
  have l0 := ld g0
  simp [OV_if]
  refine ⟨by omega, ?_⟩
  by_cases a2 : x.kind = 2
  · have hE : evText x = itoa x.t ++ 32 :: (ew ++ 32 :: (itoa x.task ++ 32 :: itoa x.err)) := by
      rw [hT]; simp [evTail, hasTask, hasPc, hasErr, hasRest, a2, joinC]
    rw [hE]
    simp [l0, c1, c4, a2, OV_if]
    refine ⟨by omega, ?_⟩
    refine (refWord_spec lp _ _ _ (Nat.le_refl _) hx.err.1 hx.err.2).mono ?_
    rintro r h4 ⟨rfl, k4⟩
    simp [OV_if]
    exact ⟨by omega, (K2.trans k3).trans k4⟩
  by_cases a4 : x.kind = 4
  · have hE : evText x = itoa x.t ++ 32 :: (ew ++ 32 :: (itoa x.task ++ 32 :: (itoa x.pc ++ 32 :: (itoa x.err ++ 32 :: (itoa x.case ++ 32 :: itoa x.v))))) := by
      rw [hT]; simp [evTail, hasTask, hasPc, hasErr, hasRest, a4, joinC]
    rw [hE]
    simp [l0, c1, c3, c4, c5, c6, a2, a4, OV_if]
    refine ⟨by omega, ?_⟩
    refine WO_re_n ?_
    simp
    refine (refWord_spec lp _ _ _ (Nat.le_refl _) hx.pc.1 hx.pc.2).mono ?_
    rintro r h4 ⟨rfl, k4⟩
    have g0 := k4.at g0 id
    have l0 := ld g0
    refine ⟨fun c => by simp [recheckB, wanted, Env.get, cls, evOp, Opd.ev, withH, CV.eqb, l0, c4, c5, c6, CV.eqb_refl], ?_⟩
    simp [OV_if]
    refine ⟨by omega, by omega, ?_⟩
    refine WO_re_n ?_
    simp
    refine (refWord_spec lp _ _ _ (Nat.le_refl _) hx.err.1 hx.err.2).mono ?_
    rintro r h5 ⟨rfl, k5⟩
    have g0 := k5.at g0 id
    have l0 := ld g0
    refine ⟨fun c => by simp [recheckB, wanted, Env.get, cls, evOp, Opd.ev, withH, CV.eqb, l0, c4, c5, c6, CV.eqb_refl], ?_⟩
    simp [OV_if]
    refine ⟨by omega, by omega, ?_⟩
    refine WO_re_n ?_
    simp
    refine (refWord_spec lp _ _ _ (Nat.le_refl _) hx.case.1 hx.case.2).mono ?_
    rintro r h6 ⟨rfl, k6⟩
    have g0 := k6.at g0 id
    have l0 := ld g0
    refine ⟨fun c => by simp [recheckB, wanted, Env.get, cls, evOp, Opd.ev, withH, CV.eqb, l0, c4, c5, c6, CV.eqb_refl], ?_⟩
    simp [OV_if]
    refine ⟨by omega, by omega, ?_⟩
    refine (refWord_spec lp _ _ _ (Nat.le_refl _) hx.v.1 hx.v.2).mono ?_
    rintro r h7 ⟨rfl, k7⟩
    simp [OV_if]
    exact ⟨by omega, (((((K2.trans k3).trans k4).trans k5).trans k6).trans k7)⟩
  by_cases a5 : x.kind = 5
  · have hE : evText x = itoa x.t ++ 32 :: (ew ++ 32 :: (itoa x.task ++ 32 :: itoa x.pc)) := by
      rw [hT]; simp [evTail, hasTask, hasPc, hasErr, hasRest, a5, joinC]
    rw [hE]
    simp [l0, c1, c3, a2, a4, a5, OV_if]
    refine ⟨by omega, ?_⟩
    refine (refWord_spec lp _ _ _ (Nat.le_refl _) hx.pc.1 hx.pc.2).mono ?_
    rintro r h4 ⟨rfl, k4⟩
    simp [OV_if]
    exact ⟨by omega, (K2.trans k3).trans k4⟩
  · have hE : evText x = itoa x.t ++ 32 :: (ew ++ 32 :: itoa x.task) := by
      rw [hT]; simp [evTail, hasTask, hasPc, hasErr, hasRest, a2, a4, a5, a8, joinC]
    rw [hE]
    simp [l0, c1, a2, a4, a5]
    exact K2.trans k3

end Go.Cl

namespace Go.Cl
open Go
set_option linter.unusedSimpArgs false
set_option linter.unusedVariables false
set_option maxHeartbeats 4000000

variable {p : PP}

theorem evNumber_spec (lp : LP p) {Q : Nat → Prop} {h : Heap} {b : Nat} {l : List Wd} {e : Int} (hQ : RdP Q b h.length) (r : RdI Q h b l e) (hl : l ≠ []) (hw : ∀ w ∈ l, w.length < 4294967281) :
    WF p 133 [.ptr b 0] h fun q h' => q = .int .i64 (numR e (at_ l 0)).1 ∧ RdI Q h' b l.tail (numR e (at_ l 0)).2 ∧ Keep (fun k => k = b) h h' := by
  refine WF_of (by rw [lp.pg]; exact S.pg133) (lp.no ⟨rfl, rfl⟩) ?_
  show W p S.b133 _ _ (retQ [.t 2] _)
  unfold S.b133
  obtain ⟨v, g0, s⟩ := r
  have l0 := ld g0
  have hlen : 0 < l.length := by cases l <;> simp at hl ⊢
  obtain ⟨b1, o1, row, x1, x2, x3, x4⟩ := s.row (k := .i64) (by decide) hlen
  have x4 : row = [.str l[0]] := x4
  have x1 : idxAddrV 1 v (.int .i64 0) = some (.ptr b1 o1) := x1
  simp only [Cod.str] at x2 x3
  have x5 := x3 0 (by decide)
  rw [x4] at x5
  simp at x5
  obtain ⟨v', h1, y1, y2, y3⟩ := s.tail (k := .i64) (m := 1) (by decide) (by omega)
  have y1 : slSl h 1 v (some (.int .i64 1)) none = some (v', h1) := y1
  have g1 := y3.at g0 id
  have l1 := ld g1
  have hat : at_ l 0 = l[0] := by simp [at_, List.getElem?_eq_getElem hlen]
  have hsc := y2.scalar
  have hb1 : b < h1.length := lt_of_get g1
  have s1 := sto1 g1 (o := 0) (v := v') (by simp) hsc
  have gA : (h1.set b (.arr [v', .int .i64 e] .tight))[b]? = some (.arr [v', .int .i64 e] .tight) := get_set_self hb1
  have kA : Keep (fun k => k = b) h1 (h1.set b (.arr [v', .int .i64 e] .tight)) := Keep.set _ _ rfl
  have lA := ld gA
  have kh : Keep (fun k => k = b) h h1 := y3.mono fun _ _ hn => hn.elim
  have yA : Sl .str (h1.set b (.arr [v', .int .i64 e] .tight)) Q v' l.tail := by
    have := (y2.mono (Q := Q) fun k hk => by
      rcases hk with hk | hk
      · exact hk
      · exact hQ.2 k hk).keep kA fun k hk => hQ.1 k hk
    simpa using this
  have fs := fits_scalar hsc
  have cs := CV.cells_scalar hsc
  have hset : ([v, .int .i64 e] : List CV).set 0 v' = [v', .int .i64 e] := rfl
  rw [hset] at s1
  by_cases he : e = 0
  · subst he
    simp [l0, x1, x5, y1, l1, fs, cs, s1, lA]
    refine (wordNumber_spec lp (hw _ (List.getElem_mem hlen))).mono ?_
    rintro r h2 ⟨rfl, k2⟩
    rw [← hat]
    have gB := k2.at gA id
    have hb2 := lt_of_get gB
    have sB := sto1 gB (o := 1) (v := .int .i64 (numP (at_ l 0)).2) (by simp) rfl
    have hset2 : ([v', .int .i64 0] : List CV).set 1 (.int .i64 (numP (at_ l 0)).2) = [v', .int .i64 (numP (at_ l 0)).2] := rfl
    rw [hset2] at sB
    have kB : Keep (fun k => k = b) h2 (h2.set b (.arr [v', .int .i64 (numP (at_ l 0)).2] .tight)) := Keep.set _ _ rfl
    simp [CV.cells, fits, sB, numR]
    refine ⟨⟨v', get_set_self hb2, (yA.on k2).keep kB fun k hk => hQ.1 k hk⟩, ?_⟩
    exact ((kh.trans kA).trans (k2.mono fun _ _ hn => hn.elim)).trans kB
  · simp [l0, x1, x5, y1, l1, fs, cs, s1, lA, he, numR_err he]
    exact ⟨⟨v', gA, yA⟩, kh.trans kA⟩

theorem evSmall_spec (lp : LP p) {Q : Nat → Prop} {h : Heap} {b : Nat} {l : List Wd} {e : Int} (hQ : RdP Q b h.length) (r : RdI Q h b l e) (hl : l ≠ []) (hw : ∀ w ∈ l, w.length < 4294967281) :
    WF p 134 [.ptr b 0] h fun q h' => q = .int .i64 (smallR e (at_ l 0)).1 ∧ RdI Q h' b l.tail (smallR e (at_ l 0)).2 ∧ Keep (fun k => k = b) h h' := by
  refine WF_of (by rw [lp.pg]; exact S.pg134) (lp.no ⟨rfl, rfl⟩) ?_
  show W p S.b134 _ _ (retQ [.t 2] _)
  unfold S.b134
  simp
  refine (evNumber_spec lp hQ r hl hw).mono ?_
  rintro q h1 ⟨rfl, ⟨v, g0, s⟩, k1⟩
  have l0 := ld g0
  generalize hN : numR e (at_ l 0) = N at *
  obtain ⟨n, f⟩ := N
  simp only at g0 l0
  have hS : smallR e (at_ l 0) = if f = 0 ∧ (n < -2147483648 ∨ 2147483647 < n) then (n, 14) else (n, f) := by
    unfold smallR; rw [hN]
  rw [hS]
  by_cases hf : f = 0
  · subst hf
    by_cases h1' : n < -2147483648
    · have sB := sto1 g0 (o := 1) (v := .int .i64 14) (by simp) rfl
      have hset2 : ([v, .int .i64 0] : List CV).set 1 (.int .i64 14) = [v, .int .i64 14] := rfl
      rw [hset2] at sB
      have kB : Keep (fun k => k = b) h1 (h1.set b (.arr [v, .int .i64 14] .tight)) := Keep.set _ _ rfl
      simp [l0, h1', fits, CV.cells, sB]
      exact ⟨⟨v, get_set_self (lt_of_get g0), s.keep kB fun k hk => hQ.1 k hk⟩, k1.trans kB⟩
    · by_cases h2' : 2147483647 < n
      · have sB := sto1 g0 (o := 1) (v := .int .i64 14) (by simp) rfl
        have hset2 : ([v, .int .i64 0] : List CV).set 1 (.int .i64 14) = [v, .int .i64 14] := rfl
        rw [hset2] at sB
        have kB : Keep (fun k => k = b) h1 (h1.set b (.arr [v, .int .i64 14] .tight)) := Keep.set _ _ rfl
        simp [l0, h1', h2', fits, CV.cells, sB]
        exact ⟨⟨v, get_set_self (lt_of_get g0), s.keep kB fun k hk => hQ.1 k hk⟩, k1.trans kB⟩
      · simp [l0, h1', h2']
        exact ⟨⟨v, g0, s⟩, k1⟩
  · simp [l0, hf]
    exact ⟨⟨v, g0, s⟩, k1⟩

end Go.Cl

namespace Go.Cl
open Go
set_option linter.unusedSimpArgs false
set_option linter.unusedVariables false
set_option maxHeartbeats 4000000

variable {p : PP}

theorem evIs_spec (lp : LP p) {h : Heap} {c : Nat} {v : CV} {l : List Wd} {x : ShV} {P : Nat → Prop} (g : h[c]? = some (.arr [v] .tight)) (s : Sl .str h P v l) (hl : 1 < l.length) :
    WF p 129 [.agg (shL x), .ptr c 0] h fun r h' => r = .bool (decide (x.word = at_ l 1)) ∧ Keep NoneOf h h' := by
  refine WF_of (by rw [lp.pg]; exact S.pg129) (lp.no ⟨rfl, rfl⟩) ?_
  show W p S.b129 _ _ (retQ [.t 3] _)
  unfold S.b129
  have k : Keep NoneOf h (h ++ [.arr (shL x) .tight]) := Keep.app _ _ _
  have l0 := ld (k.at g id)
  have h0 : ∀ o, loadAt (h ++ [.arr (shL x) .tight]) h.length o none = (shL x)[o]? := fun o => one0 o
  have e0 : (shL x)[0]? = some (.str x.word) := rfl
  obtain ⟨b1, o1, row, x1, x2, x3, x4⟩ := (s.on k).row (k := .i64) (by decide) hl
  have x4 : row = [.str l[1]] := x4
  have x1 : idxAddrV 1 v (.int .i64 1) = some (.ptr b1 o1) := x1
  simp only [Cod.str] at x2 x3
  have x5 := x3 0 (by decide)
  rw [x4] at x5
  simp at x5
  have hat : at_ l 1 = l[1] := by simp [at_, List.getElem?_eq_getElem hl]
  rw [hat]
  simp [CV.cells, h0, e0, l0, x1, x5]
  refine ⟨?_, k⟩
  by_cases hq : x.word = l[1] <;> simp [hq]

/-- a word's Kind, or that there is none -/
def idxK (w : Wd) : Int := if evKind w < 1 then -1 else evKind w

def IxI (v : CV) (w : Wd) (f : CV) (h : Heap) (m : Nat) (e : Env) (h' : Heap) : Prop :=
  ∃ i : Nat, i ≤ 9 ∧ m = 9 - i ∧ e = [(0, v), (1, f), (7, .int .i64 9), (8, .int .i64 i)] ∧ Keep NoneOf h h' ∧ ∀ j (hj : j < shapesL.length), j < i → shapesL[j].word ≠ w

theorem shape_word {w : Wd} (hw : w ≠ []) (h : ∀ j (hj : j < shapesL.length), shapesL[j].word ≠ w) : evKind w < 1 := by
  by_cases h1 : evKind w < 1
  · exact h1
  · exfalso
    have h1 : 1 ≤ evKind w := by omega
    have h2 := (evKind_le w).2
    obtain ⟨i, hi⟩ := Int.eq_ofNat_of_zero_le (by omega : 0 ≤ evKind w)
    have h9 : i < shapesL.length := by show i < 9; omega
    have := h i h9
    rw [shape_at (by omega) h9] at this
    simp only at this
    rw [← hi, evWord_kind h1] at this
    exact this rfl

theorem shape_hit {w : Wd} (hw : w ≠ []) {i : Nat} (hi : i < shapesL.length) (h : shapesL[i].word = w) : idxK w = i ∧ 1 ≤ i := by
  have h1 : 1 ≤ i := by
    rcases Nat.eq_zero_or_pos i with h0 | h0
    · subst h0
      exact absurd h.symm hw
    · exact h0
  have h9 : i < 9 := hi
  rw [shape_at h1 hi] at h
  simp only at h
  have := evKind_word (k := i) (by omega) (by omega)
  rw [h] at this
  exact ⟨by unfold idxK; rw [if_neg (by omega), this], h1⟩

theorem evIndex_spec (lp : LP p) {h : Heap} {c : Nat} {v sv : CV} {l : List Wd} {P Q : Nat → Prop} (g : h[c]? = some (.arr [v] .tight)) (s : Sl .str h P v l) (hl : 1 < l.length) (hw : at_ l 1 ≠ []) (t : Sl shC h Q sv shapesL) :
    WF p 130 [sv, .fn 129 [.ptr c 0]] h fun r h' => r = .int .i64 (idxK (at_ l 1)) ∧ Keep NoneOf h h' := by
  refine WF_of (by rw [lp.pg]; exact S.pg130) (lp.no ⟨rfl, rfl⟩) ?_
  show W p S.b130 _ _ (retQ [.t 4] _)
  unfold S.b130
  have n9 := t.len (by decide)
  have n9 : lenV h .sl sv = some (.int .i64 9) := n9
  simp [n9]
  refine W_loop (IxI sv (at_ l 1) (.fn 129 [.ptr c 0]) h) ?_ 9 ⟨0, by omega, by omega, rfl, Keep.refl _ _, fun j _ h0 => by omega⟩
  rintro m e h1 ⟨i, hi, rfl, rfl, k1, hno⟩
  by_cases hie : i = 9
  · subst hie
    have := shape_word hw fun j hj => hno j hj hj
    simp [idxK, this]
    exact k1
  · have hlt : i < shapesL.length := by show i < 9; omega
    have hlt' : (i : Int) < 9 := by omega
    obtain ⟨b0, o0, row, x1, x2, x3, x4⟩ := (t.on k1).row (k := .i64) (by decide) hlt
    have x4 : row = shL shapesL[i] := x4
    simp only [shC] at x1 x2
    rw [x4] at x2
    have hwi : IntKind.i64.wrap ((i : Int) + 1) = ((i + 1 : Nat) : Int) := by rw [w64 (by omega) (by omega)]; omega
    simp [hlt', x1, x2]
    refine (evIs_spec lp (k1.at g id) (s.on k1) hl).mono ?_
    rintro r h2 ⟨rfl, k2⟩
    by_cases hq : shapesL[i].word = at_ l 1
    · obtain ⟨q1, q2⟩ := shape_hit hw hlt hq
      simp [hq, q1]
      exact k1.trans k2
    · simp [hq, hwi]
      refine ⟨9 - (i + 1), by omega, i + 1, by omega, rfl, rfl, k1.trans k2, fun j hj hji => ?_⟩
      by_cases hjj : j = i
      · subst hjj; exact hq
      · exact hno j hj (by omega)

/-! ### how many fields -/

def FdI (h : Heap) (b : Nat) (bs : List Bool) (m : Nat) (e : Env) (h' : Heap) : Prop :=
  ∃ i : Nat, i ≤ 5 ∧ m = 5 - i ∧ e = [(3, .int .i64 ((2 + (bs.take i).countP id : Nat) : Int)), (16, .sl b 0 5 5), (17, .int .i64 5), (18, .int .i64 i)] ∧ Keep NoneOf h h' ∧ h'[b]? = some (.arr (bs.map .bool) .tight)

theorem evFields_spec (lp : LP p) {h : Heap} {x : ShV} : WF p 131 [.agg (shL x)] h fun r h' => r = .int .i64 ((2 + [x.task, x.pc, x.err, x.rest, x.rest].countP id : Nat) : Int) ∧ Keep NoneOf h h' := by
  refine WF_of (by rw [lp.pg]; exact S.pg131) (lp.no ⟨rfl, rfl⟩) ?_
  show W p S.b131 _ _ (retQ [.t 2] _)
  unfold S.b131
  have h0 : ∀ o, loadAt (h ++ [.arr (shL x) .tight]) h.length o none = (shL x)[o]? := fun o => one0 o
  have e1 : (shL x)[1]? = some (.bool x.task) := rfl
  have e2 : (shL x)[2]? = some (.bool x.pc) := rfl
  have e3 : (shL x)[3]? = some (.bool x.err) := rfl
  have e4 : (shL x)[4]? = some (.bool x.rest) := rfl
  obtain ⟨bs, hbs⟩ : ∃ bs, bs = [x.task, x.pc, x.err, x.rest, x.rest] := ⟨_, rfl⟩
  rw [← hbs]
  have hl : bs.length = 5 := by rw [hbs]; rfl
  have hm : ([.bool x.task, .bool x.pc, .bool x.err, .bool x.rest, .bool x.rest] : List CV) = bs.map .bool := by rw [hbs]; rfl
  simp [CV.cells, h0, e1, e2, e3, e4, fillC, splice]
  rw [hm]
  clear hm hbs
  refine W_loop (FdI h (h.length + 1) bs) ?_ 5 ⟨0, by omega, by omega, rfl, Keep.app _ _ _, by simp⟩
  rintro m e h1 ⟨i, hi, rfl, rfl, k1, g1⟩
  by_cases hie : i = 5
  · subst hie
    have ht : bs.take 5 = bs := List.take_of_length_le (by omega)
    simp [ht]
    exact k1
  · have hlt : i < bs.length := by omega
    have hlt' : (i : Int) < 5 := by omega
    have l1 := ld g1
    have hq : (bs.map CV.bool)[i]? = some (.bool bs[i]) := by rw [List.getElem?_map, List.getElem?_eq_getElem hlt]; rfl
    have hwi : IntKind.i64.wrap ((i : Int) + 1) = ((i + 1 : Nat) : Int) := by rw [w64 (by omega) (by omega)]; omega
    have hc : (bs.take i).countP id ≤ 5 := Nat.le_trans List.countP_le_length (by simp; omega)
    have hnx : (bs.take (i + 1)).countP id = (bs.take i).countP id + (if bs[i] then 1 else 0) := by
      rw [List.take_add_one, List.getElem?_eq_getElem hlt, Option.toList_some, List.countP_append, List.countP_singleton]
      rfl
    generalize hcq : (bs.take i).countP id = q at *
    have hw2 : IntKind.i64.wrap (((2 + q : Nat) : Int) + 1) = ((2 + (q + 1) : Nat) : Int) := by rw [w64 (by omega) (by omega)]; omega
    generalize h2q : ((2 + q : Nat) : Int) = z at *
    cases hb : bs[i] with
    | true =>
      rw [hb] at hnx hq
      simp [hlt', l1, hq, hwi, hw2]
      refine ⟨5 - (i + 1), by omega, i + 1, by omega, rfl, ?_, k1, g1⟩
      rw [hnx]; simp
    | false =>
      rw [hb] at hnx hq
      simp [hlt', l1, hq, hwi]
      refine ⟨5 - (i + 1), by omega, i + 1, by omega, rfl, ?_, k1, g1⟩
      rw [hnx, ← h2q]; simp

theorem fields_eq {k : Int} {w : Wd} : 2 + [(⟨w, hasTask k, hasPc k, hasErr k, hasRest k⟩ : ShV).task, hasPc k, hasErr k, hasRest k, hasRest k].countP id = evFields k := by
  unfold evFields
  cases hasTask k <;> cases hasPc k <;> cases hasErr k <;> cases hasRest k <;> rfl

/-! ### two rows put together -/

def CcI (va vb : CV) (la lb : List Wd) (b : Nat) (h : Heap) (m : Nat) (e : Env) (h' : Heap) : Prop :=
  ∃ i : Nat, i ≤ 2 ∧ m = 4 - i ∧ e = [(0, .sl b 0 2 2), (3, .int .i64 ((if i = 0 then 0 else if i = 1 then la.length else la.length + lb.length : Nat) : Int)), (9, .sl b 0 2 2), (10, .int .i64 2), (11, .int .i64 i)] ∧ h' = h

def CdI (va vb : CV) (la lb : List Wd) (b : Nat) (h : Heap) (m : Nat) (e : Env) (h' : Heap) : Prop :=
  ∃ (i : Nat) (v : CV), i ≤ 2 ∧ m = 4 - i ∧ e = [(6, v), (25, .sl b 0 2 2), (26, .int .i64 2), (27, .int .i64 i)] ∧ Keep NoneOf h h' ∧ Roomy h' 1 v ((if i = 0 then [] else if i = 1 then la else la ++ lb).map .str) ∧ ∀ b, v.blk = some b → h.length ≤ b

theorem grow_spec (lp : LP p) {h : Heap} {n : Nat} (h0 : 1 ≤ n) (hn : n ≤ 1000000) : WF p 168 [.nils, .int .i64 n] h fun r h' => Roomy h' 1 r [] ∧ Keep NoneOf h h' ∧ ∀ b, r.blk = some b → h.length ≤ b := by
  refine WF_of (by rw [lp.pg]; exact S.pg168) (lp.no ⟨rfl, rfl⟩) ?_
  show W p S.b168 _ _ (retQ [.t 4] _)
  unfold S.b168
  have w1 : IntKind.i64.wrap 0 = 0 := w64 (by omega) (by omega)
  have w2 : IntKind.i64.wrap (n : Int) = n := w64 (by omega) (by omega)
  have a1 : ¬ (n : Int) < 0 := by omega
  have a2 : (0 : Int) < n := by omega
  have a3 : ((n : Int)) ≤ (big : Int) := by simp [big]; omega
  have a4 : ¬ (n : Int) = 0 := by omega
  have a5 : ¬ n = 0 := by omega
  have c1 : slSl h 1 .nils none (some (.int .i64 0)) = some (.nils, h) := by simp [slSl, bound]
  have c2 : ∀ H : Heap, slSl H 1 (.sl h.length 0 n n) none (some (.int .i64 0)) = some (.sl h.length 0 0 n, H) := fun H => by
    simp only [slSl, bound]
    rw [if_neg (by omega), if_pos ⟨by omega, by omega⟩]
    simp
  have a6 : 0 < n := h0
  simp [w1, w2, a1, a2, a3, a4, a5, a6, c1, c2]
  refine ⟨?_, Keep.app _ _ _, by simp [CV.blk]⟩
  exact .inr ⟨h.length, 0, 0, n, _, .loose 1, rfl, rfl, Nat.zero_le _, .inr rfl, by simp; rfl, by simp, by simp⟩

theorem concat_spec (lp : LP p) {h : Heap} {va vb : CV} {la lb : List Wd} {b : Nat} {P Q : Nat → Prop} (g : h[b]? = some (.arr [va, vb] .tight)) (sa : Sl .str h P va la) (sb : Sl .str h Q vb lb) (h1 : 1 ≤ la.length + lb.length) (h2 : la.length + lb.length ≤ 1000000) :
    WF p 132 [.sl b 0 2 2] h fun r h' => Sl .str h' (From h) r (la ++ lb) ∧ Keep NoneOf h h' := by
  refine WF_of (by rw [lp.pg]; exact S.pg132) (lp.no ⟨rfl, rfl⟩) ?_
  show W p S.b132 _ _ (retQ [.t 2] _)
  unfold S.b132
  have l0 := ld g
  have na := sa.len (by decide)
  have nb := sb.len (by decide)
  simp
  refine W_loop (CcI va vb la lb b h) ?_ 4 ⟨0, by omega, by omega, rfl, rfl⟩
  rintro m e h1' ⟨i, hi, rfl, rfl, rfl⟩
  match i, hi with
  | 0, _ =>
    have w1 : IntKind.i64.wrap (la.length : Int) = la.length := w64 (by omega) (by omega)
    have w2 : IntKind.i64.wrap 1 = 1 := w64 (by omega) (by omega)
    have a1 : ¬ (la.length : Int) < 0 := by omega
    simp [l0, na, w1, w2, a1]
    exact ⟨3, by omega, 1, by omega, rfl, by simp, rfl⟩
  | 1, _ =>
    have w1 : IntKind.i64.wrap ((la.length : Int) + lb.length) = ((la.length + lb.length : Nat) : Int) := by rw [w64 (by omega) (by omega)]; omega
    have w2 : IntKind.i64.wrap 2 = 2 := w64 (by omega) (by omega)
    have a1 : ¬ ((la.length + lb.length : Nat) : Int) < 0 := by omega
    simp only [if_neg (show ¬ (1 : Nat) = 0 by omega), if_true]
    simp [l0, nb, w2]
    rw [w1]
    generalize hn : la.length + lb.length = n at *
    simp [a1]
    exact ⟨2, by omega, 2, by omega, rfl, by simp [w2]; omega, rfl⟩
  | 2, _ =>
    simp only [if_neg (show ¬ (2 : Nat) = 0 by omega), if_neg (show ¬ (2 : Nat) = 1 by omega)]
    generalize hn : la.length + lb.length = n at *
    simp
    refine (grow_spec lp h1 h2).mono ?_
    rintro r h2' ⟨ro, k2, hb2⟩
    try simp
    refine W_loop (CdI va vb la lb b h1') ?_ 4 ⟨0, r, by omega, by omega, rfl, k2, by simpa using ro, hb2⟩
    rintro m e h3 ⟨i, v, hi, rfl, rfl, k3, ro3, hb3⟩
    have l3 := ld (k3.at g id)
    have push : ∀ {s : CV} {l acc : List Wd} {K : CV × Heap → Prop} {R : Nat → Prop}, Sl .str h1' R s l → acc.length + l.length ≤ 1000000 → Roomy h3 1 v (acc.map .str) → (∀ v' h4, Keep NoneOf h1' h4 → Roomy h4 1 v' ((acc ++ l).map .str) → (∀ b, v'.blk = some b → h1'.length ≤ b) → K (v', h4)) → OV (spread h3 1 s) fun q => OV (appendTo h3 1 v q.1 q.2) K := by
      intro s l acc K R hs hl hro kk
      obtain ⟨cells, q1, q2⟩ := (hs.on k3).spread (by decide)
      have hc := rows_str q2
      have q1 : spread h3 1 s = some (l.length, cells) := q1
      rw [q1, OV_some, hc]
      refine OV_room (n := acc.length) hro (by simp) (by simp) (by rw [List.all_map]; exact List.all_eq_true.2 fun _ _ => rfl) (by simp [big]; omega) (by simp [big]; omega) (by decide) ?_
      intro v' h4 r4 k4 b4
      refine kk v' h4 (k3.then k4 fun b hb e => by have := hb3 b e; omega) (by rw [List.map_append]; exact r4) fun b hb => ?_
      rcases b4 b hb with q | q
      · exact hb3 b q
      · have := k3.len; omega
    match i, hi with
    | 0, _ =>
      have w2 : IntKind.i64.wrap 1 = 1 := w64 (by omega) (by omega)
      simp [l3]
      refine push sa (acc := []) (by simp; omega) (by simpa using ro3) ?_
      intro v' h4 k4 r4 b4
      simp [w2]
      exact ⟨3, by omega, 1, v', by omega, rfl, rfl, k4, by simpa using r4, b4⟩
    | 1, _ =>
      have w2 : IntKind.i64.wrap 2 = 2 := w64 (by omega) (by omega)
      simp [l3]
      refine push sb (acc := la) (by omega) (by simpa using ro3) ?_
      intro v' h4 k4 r4 b4
      simp [w2]
      exact ⟨2, by omega, 2, v', by omega, rfl, rfl, k4, by simpa using r4, b4⟩
    | 2, _ =>
      simp
      refine ⟨?_, k3⟩
      have hr : Roomy h3 1 v ((la ++ lb).map .str) := by simpa using ro3
      refine ⟨_, hr.read, ⟨?_, fun b hb => hb3 b hb⟩, rows_strs⟩
      rcases hr with ⟨rfl, _⟩ | ⟨b, o, n, c, cs, st, rfl, _, hc, _⟩
      · trivial
      · exact hc

end Go.Cl

namespace Go.Cl
open Go
set_option linter.unusedSimpArgs false
set_option linter.unusedVariables false
set_option maxHeartbeats 1000000

variable {p : PP}

structure Spots where
  A : Nat
  R7 : Nat
  R8 : Nat
  R9 : Nat

def Spots.P (s : Spots) (k : Nat) : Prop := k ≠ s.R8 ∧ k ≠ s.R9

/-- while fields are read -/
structure PsH (h : Heap) (s : Spots) (row : List CV) (x : EvV) (l : List Wd) (e : Int) (h' : Heap) : Prop where
  k : Keep NoneOf h h'
  a : h'[s.A]? = some (.arr (evL ev0) .tight)
  r7 : h'[s.R7]? = some (.arr row .tight)
  r9 : h'[s.R9]? = some (.arr (evL x) .tight)
  r8 : RdI s.P h' s.R8 l e
  a0 : h.length ≤ s.A
  b0 : h.length ≤ s.R8
  c0 : h.length ≤ s.R9
  d1 : s.A ≠ s.R8
  d2 : s.A ≠ s.R9
  d3 : s.R7 ≠ s.R8
  d4 : s.R7 ≠ s.R9
  d5 : s.R8 ≠ s.R9
  w : ∀ u ∈ l, u.length < 4294967281

def PsI (h : Heap) (s : Spots) (row : List CV) (x : EvV) (l : List Wd) (e : Int) (env : Env) (h' : Heap) : Prop :=
  (∃ r, env = (2, .ptr s.A 0) :: (7, .ptr s.R7 0) :: (8, .ptr s.R8 0) :: (9, .ptr s.R9 0) :: r) ∧ PsH h s row x l e h'

theorem PsH.rd {h : Heap} {s : Spots} {row : List CV} {x : EvV} {l : List Wd} {e : Int} {h1 : Heap} (q : PsH h s row x l e h1) : RdP s.P s.R8 h1.length :=
  ⟨fun k hk => hk.1, fun k hk => ⟨by have := q.r8.lt; omega, by have := lt_of_get q.r9; omega⟩⟩

/-- a number read, the reader moved on -/
theorem PsH.read {h : Heap} {s : Spots} {row : List CV} {x : EvV} {l : List Wd} {e e' : Int} {h1 h2 : Heap} (q : PsH h s row x l e h1) (k : Keep (fun k => k = s.R8) h1 h2) (r : RdI s.P h2 s.R8 l.tail e') : PsH h s row x l.tail e' h2 :=
  ⟨q.k.then k fun b hb e => by have := q.b0; omega, k.at q.a q.d1, k.at q.r7 q.d3, k.at q.r9 (fun e => q.d5 e.symm), r, q.a0, q.b0, q.c0, q.d1, q.d2, q.d3, q.d4, q.d5, fun u hu => q.w u (List.mem_of_mem_tail hu)⟩

/-- a field laid -/
theorem PsH.lay {h : Heap} {s : Spots} {row : List CV} {x : EvV} (y : EvV) {l : List Wd} {e : Int} {h1 : Heap} (q : PsH h s row x l e h1) : PsH h s row y l e (h1.set s.R9 (.arr (evL y) .tight)) := by
  have ke : Keep (fun b => b = s.R9) h1 (h1.set s.R9 (.arr (evL y) .tight)) := Keep.set _ _ rfl
  obtain ⟨v, a, sl⟩ := q.r8
  exact ⟨q.k.then ke fun b hb e => by have := q.c0; omega, ke.at q.a q.d2, ke.at q.r7 q.d4, get_set_self (lt_of_get q.r9), ⟨v, ke.at a q.d5, sl.keep ke fun k hk => hk.2⟩, q.a0, q.b0, q.c0, q.d1, q.d2, q.d3, q.d4, q.d5, q.w⟩

theorem idxK_ge {w : Wd} (h : ¬ evKind w < 1) : idxK w = evKind w := by unfold idxK; rw [if_neg h]
theorem idxK_lt {w : Wd} (h : evKind w < 1) : idxK w = -1 := by unfold idxK; rw [if_pos h]

theorem words_ne {s : Wd} {l : List Wd} (h : wordsP s = some l) : ∀ w ∈ l, w ≠ [] ∧ w.length ≤ s.length := by
  unfold wordsP at h
  split at h
  · cases h; simp
  · split at h
    · rename_i ha
      cases h
      intro w hw
      refine ⟨?_, splitC_part hw⟩
      have := List.all_eq_true.1 ha w hw
      rintro rfl
      simp [wordOk] at this
    · cases h

theorem words_len {s : Wd} {l : List Wd} (h : wordsP s = some l) : l.length ≤ s.length + 1 := by
  unfold wordsP at h
  split at h
  · cases h; simp
  · split at h
    · cases h; exact splitC_len_le 32 s
    · cases h

theorem take_drop_tail {l : List Wd} (h : 1 < l.length) : (l.take 1 ++ l.drop 2).tail = l.drop 2 := by
  match l, h with
  | a :: b :: r, _ => rfl
theorem take_drop_at {l : List Wd} (h : 1 < l.length) : at_ (l.take 1 ++ l.drop 2) 0 = at_ l 0 := by
  match l, h with
  | a :: b :: r, _ => rfl

theorem evParse_spec (lp : LP p) {s : Wd} {h : Heap} (hs : s.length ≤ 100000) : WF p 112 [.str s] h fun r h' => r = .tup [.agg (evL (evParse s).1), .int .i64 (evParse s).2] ∧ Keep NoneOf h h' := by
  refine WF_of (by rw [lp.pg]; exact S.pg112) (lp.no ⟨rfl, rfl⟩) ?_
  show W p S.b112 _ _ (retQ [.cell (some 7) 2, .t 3] _)
  unfold S.b112
  have ca : ∀ l, (CV.agg l).cells = l := fun _ => rfl
  have cn : (CV.nils).cells = [.nils] := rfl
  simp [ca, cn]
  refine (wordSplit_spec lp (by omega)).mono ?_
  rintro r h1 ⟨wv, rfl, sl, k1⟩
  have gA := k1.at (b := h.length) (o := .arr (evL ev0) .tight) (by simp [evL, ev0]) id
  have hwv := sl.scalar
  have stB : storeAt (h1 ++ [.arr [.nils] .tight]) h1.length 0 [wv] = some (h1 ++ [.arr [wv] .tight]) := store_new rfl (by simp [hwv])
  have lB : ∀ o, loadAt (h1 ++ [.arr [wv] .tight]) h1.length o none = ([wv] : List CV)[o]? := fun o => one0 o
  have kB : Keep NoneOf h1 (h1 ++ [.arr [wv] .tight]) := Keep.app _ _ _
  have K1 : Keep NoneOf h (h1 ++ [.arr [wv] .tight]) := (((Keep.app _ _ _).trans k1).trans kB)
  have gA1 := kB.at gA id
  have gB : (h1 ++ [Obj.arr [wv] .tight])[h1.length]? = some (.arr [wv] .tight) := by simp
  have zb : fillC [.int .i64 0, .int .i64 0, .int .i64 0, .int .i64 0, .int .i64 0, .int .i64 0, .int .i64 0] [] = some (evL ev0) := rfl
  have lE : (evL ev0).length = 7 := rfl
  have hfit : fits (some 7) (.agg (evL ev0)) = true := rfl
  have zcell : (CV.agg (evL ev0)).cells = evL ev0 := rfl
  have hlt1 : h.length < h1.length := lt_of_get gA
  have fs := fits_scalar hwv
  have cs := CV.cells_scalar hwv
  have s1 := sl.on kB
  generalize hH1 : h1 ++ [Obj.arr [wv] .tight] = H at *
  have stA : ∀ H' : Heap, H'[h.length]? = some (.arr (evL ev0) .tight) → storeAt H' h.length 0 (evL ev0) = some (H'.set h.length (.arr (evL ev0) .tight)) := fun H' g => sto g rfl rfl
  have ret0 : ∀ {H' : Heap} {n : Int}, Keep NoneOf h H' → H'[h.length]? = some (.arr (evL ev0) .tight) → (evParse s) = (ev0, n) → (loadAt (H'.set h.length (.arr (evL ev0) .tight)) h.length 0 (some 7) = some (.agg (evL ev0))) ∧ Keep NoneOf h (H'.set h.length (.arr (evL ev0) .tight)) := fun {H' n} k g _ =>
    ⟨ldw (get_set_self (lt_of_get g)) rfl, k.then (Keep.set (S := fun b => b = h.length) _ _ rfl) fun b hb e => by omega⟩
  cases hws : wordsP s with
  | none =>
    have hP : evParse s = (ev0, 2) := by unfold evParse; rw [hws]
    obtain ⟨q1, q2⟩ := ret0 K1 gA1 hP
    rw [hP]
    simp [errOf, ca, cn, fs, cs, stB, hH1, zb, lE, stA _ gA1, q1]
    exact q2
  | some l =>
    rw [hws] at sl s1
    have sl : Sl .str h1 (From (h ++ [.arr (evL ev0) .tight])) wv l := sl
    have s1 : Sl .str H (From (h ++ [.arr (evL ev0) .tight])) wv l := s1
    have nl := s1.len (by decide)
    have hwn := words_ne hws
    have hll := words_len hws
    by_cases h2 : l.length < 2
    · have hP : evParse s = (ev0, 2) := by unfold evParse; rw [hws]; simp only; rw [if_pos (.inl h2)]
      obtain ⟨q1, q2⟩ := ret0 K1 gA1 hP
      rw [hP]
      have h2' : (l.length : Int) < 2 := by omega
      simp [errOf, ca, cn, fs, cs, stB, hH1, lB, nl, h2', zb, lE, stA _ gA1, q1]
      exact q2
    · have h2' : ¬ (l.length : Int) < 2 := by omega
      simp [errOf, ca, cn, fs, cs, stB, hH1, lB, nl, h2']
      have hl1 : 1 < l.length := by omega
      have hat1 : at_ l 1 = l[1] := by simp [at_, List.getElem?_eq_getElem hl1]
      have hw1 : at_ l 1 ≠ [] := by rw [hat1]; exact (hwn _ (List.getElem_mem hl1)).1
      refine (shapes_spec lp).mono ?_
      rintro r h2x ⟨sv, rfl, t2, k2⟩
      refine (evIndex_spec lp (k2.at gB id) (s1.on k2) hl1 hw1 t2).mono ?_
      rintro r h3 ⟨rfl, k3⟩
      have K3 := (K1.trans k2).trans k3
      have gA3 := k3.at (k2.at gA1 id) id
      have gB3 := k3.at (k2.at gB id) id
      have lB3 := ld gB3
      have s3 := (s1.on k2).on k3
      have nl3 := s3.len (by decide)
      by_cases hk : evKind (at_ l 1) < 1
      · have hP : evParse s = (ev0, 2) := by unfold evParse; rw [hws]; simp only; rw [if_pos (.inr (.inl hk))]
        obtain ⟨q1, q2⟩ := ret0 K3 gA3 hP
        rw [hP, idxK_lt hk]
        simp
        refine WO_re_f (by simp) ?_
        simp
        refine WO_re_f (by simp) ?_
        simp [ca, zb, lE, stA _ gA3, q1]
        exact q2
      · rw [idxK_ge hk]
        have hk8 := (evKind_le (at_ l 1)).2
        have hkE : evKind (at_ l 1) = evKind (at_ l 1) := rfl
        generalize hK : evKind (at_ l 1) = kk at *
        simp [hk, lB3, nl3]
        refine WO_re (by simp) ?_
        simp
        refine (shapes_spec lp).mono ?_
        rintro r h4 ⟨sv4, rfl, t4, k4⟩
        have lB4 := ld (k4.at gB3 id)
        have hln : l ≠ [] := by rintro rfl; simp at hl1
        obtain ⟨bw, ow, cw, rfl⟩ := s3.form hln
        refine ⟨fun c => by simp [recheckB, wanted, Env.get, cls, evOp, Opd.ev, withH, CV.eqb, lB4, i64, CV.eqb_refl], ?_⟩
        obtain ⟨i, hi⟩ := Int.eq_ofNat_of_zero_le (by omega : 0 ≤ kk)
        have hi9 : i < shapesL.length := by show i < 9; omega
        obtain ⟨b0, o0, row, x1, x2, x3, x4⟩ := t4.row (k := .i64) (by decide) hi9
        rw [shape_at (by omega) hi9, ← hi] at x4
        have x4 : row = shL ⟨evWord kk, hasTask kk, hasPc kk, hasErr kk, hasRest kk⟩ := x4
        simp only [shC] at x1 x2 x3
        rw [← hi] at x1
        simp [x1, x2]
        refine WO_re (by simp) ?_
        rw [x4]
        simp
        refine (evFields_spec lp).mono ?_
        rintro r h5 ⟨rfl, k5⟩
        have lB5 := ld (k5.at (k4.at gB3 id) id)
        refine ⟨fun c => by simp [recheckB, wanted, Env.get, cls, evOp, Opd.ev, withH, CV.eqb, lB5, i64, CV.eqb_refl], ?_⟩
        rw [fields_eq]
        have K5 := (K3.trans k4).trans k5
        have gA5 := k5.at (k4.at gA3 id) id
        have gB5 := k5.at (k4.at gB3 id) id
        have s5 := (s3.on k4).on k5
        by_cases hf : l.length = evFields kk
        · have hf' : (l.length : Int) = evFields kk := by omega
          simp [hf']
          refine (shapes_spec lp).mono ?_
          rintro r h6 ⟨sv6, rfl, t6, k6⟩
          obtain ⟨b0, o0, row, x1, x2, x3, x4⟩ := t6.row (k := .i64) (by decide) hi9
          rw [shape_at (by omega) hi9, ← hi] at x4
          have x4 : row = shL ⟨evWord kk, hasTask kk, hasPc kk, hasErr kk, hasRest kk⟩ := x4
          simp only [shC] at x1 x2 x3
          rw [← hi] at x1
          have r1 : row[1]? = some (.bool (hasTask kk)) := by rw [x4]; rfl
          have r2 : row[2]? = some (.bool (hasPc kk)) := by rw [x4]; rfl
          have r3 : row[3]? = some (.bool (hasErr kk)) := by rw [x4]; rfl
          have r4 : row[4]? = some (.bool (hasRest kk)) := by rw [x4]; rfl
          have hfitR : fits (some 5) (.agg row) = true := by rw [x4]; rfl
          have stR : storeAt (h6 ++ [.arr [.str [], .bool false, .bool false, .bool false, .bool false] .tight]) h6.length 0 row = some (h6 ++ [.arr row .tight]) := store_new (by rw [x4]; rfl) (by rw [x4]; rfl)
          have K7 : Keep NoneOf h (h6 ++ [.arr row .tight]) := (K5.trans k6).trans (Keep.app _ _ _)
          have k67 : Keep NoneOf h6 (h6 ++ [.arr row .tight]) := Keep.app _ _ _
          have gA7 := k67.at (k6.at gA5 id) id
          have gB7 := k67.at (k6.at gB5 id) id
          have s7 := (s5.on k6).on k67
          have gR7 : (h6 ++ [Obj.arr row .tight])[h6.length]? = some (.arr row .tight) := by simp
          have hA7 : h.length < h6.length := by have := lt_of_get (k6.at gA5 id); omega
          generalize hH7 : h6 ++ [Obj.arr row .tight] = H7 at *
          obtain ⟨va, y1, sa⟩ := s7.cut (k := .i64) (m := 1) (by decide) (by omega)
          have y1 : slSl H7 1 (.sl bw ow l.length cw) none (some (.int .i64 1)) = some (va, H7) := y1
          obtain ⟨vb, H8, z1, sb, k8⟩ := s7.tail (k := .i64) (m := 2) (by decide) (by omega)
          have z1 : slSl H7 1 (.sl bw ow l.length cw) (some (.int .i64 2)) none = some (vb, H8) := z1
          have lB7 := ld gB7
          have f1 : fillC [.nils, .nils] [(0, 1, va), (1, 1, vb)] = some [va, vb] := by simp [fillC, splice, CV.cells_scalar sa.scalar, CV.cells_scalar sb.scalar]
          simp [x1, x2, ca, hfitR, stR, hH7, lB7, y1, z1, f1]
          have k89 : Keep NoneOf H8 (H8 ++ [.arr [va, vb] .tight]) := Keep.app _ _ _
          have hL0 : (l.take 1).length + (l.drop 2).length = l.length - 1 := by simp; omega
          refine (concat_spec lp (b := H8.length) (by simp) ((sa.on k8).on k89) (sb.on k89) (by omega) (by omega)).mono ?_
          rintro cv h9 ⟨sc, k9⟩
          have f2 : fillC [.nils, .int .i64 0] [(0, 1, cv)] = some [cv, .int .i64 0] := by simp [fillC, splice, CV.cells_scalar sc.scalar]
          simp [f2]
          have k910 : Keep NoneOf h9 (h9 ++ [.arr [cv, .int .i64 0] .tight]) := Keep.app _ _ _
          have K10 : Keep NoneOf h (h9 ++ [.arr [cv, .int .i64 0] .tight]) := (((K7.trans k8).trans k89).trans k9).trans k910
          have k710 : Keep NoneOf H7 (h9 ++ [.arr [cv, .int .i64 0] .tight]) := ((k8.trans k89).trans k9).trans k910
          have gA10 := k710.at gA7 id
          have gR10 := k710.at gR7 id
          have hR9 : h6.length < h9.length := by have := lt_of_get ((k8.trans (k89.trans k9)).at gR7 id); omega
          have rd : RdI (fun k => k ≠ h9.length) (h9 ++ [.arr [cv, .int .i64 0] .tight]) h9.length (l.take 1 ++ l.drop 2) 0 := ⟨cv, by simp, (sc.lt.mono fun k hk => by have := hk.2; omega).on k910⟩
          have hwd : ∀ u ∈ l.take 1 ++ l.drop 2, u.length < 4294967281 := fun u hu => by
            have : u ∈ l := by
              rcases List.mem_append.1 hu with hu | hu
              · exact List.mem_of_mem_take hu
              · exact List.mem_of_mem_drop hu
            have := (hwn u this).2; omega
          have hne : l.take 1 ++ l.drop 2 ≠ [] := by
            intro e
            have := congrArg List.length e
            rw [List.length_append, hL0] at this
            simp at this; omega
          refine (evNumber_spec lp ⟨fun k hk => hk, fun k hk => by simp at hk; omega⟩ rd hne hwd).mono ?_
          rintro r h11 ⟨rfl, rd11, k11⟩
          have t1 := take_drop_tail hl1
          have t0 := take_drop_at hl1
          rw [t0, t1] at rd11
          rw [t0]
          have hE : evParse s = evFin (evRead kk l) := by
            unfold evParse
            rw [hws]
            simp only
            rw [hK, if_neg (by omega)]
          rw [hE]
          unfold evRead
          have hTl : (l.drop 2).length = (if hasTask kk then 1 else 0) + (if hasPc kk then 1 else 0) + (if hasErr kk then 1 else 0) + (if hasRest kk then 2 else 0) := by
            rw [List.length_drop, hf]; unfold evFields; omega
          generalize hN : numR 0 (at_ l 0) = N at *
          have hwt : ∀ u ∈ l.drop 2, u.length < 4294967281 := fun u hu => by have := (hwn u (List.mem_of_mem_drop hu)).2; omega
          generalize hL2 : l.drop 2 = L at *
          obtain ⟨n1, e1⟩ := N
          have f3 : fillC [.int .i64 0, .int .i64 0, .int .i64 0, .int .i64 0, .int .i64 0, .int .i64 0, .int .i64 0] [(0, 1, .int .i64 n1), (1, 1, .int .i64 kk)] = some (evL ⟨n1, kk, 0, 0, 0, 0, 0⟩) := rfl
          have st9 : storeAt (h11 ++ [.arr (evL ev0) .tight]) h11.length 0 (evL ⟨n1, kk, 0, 0, 0, 0, 0⟩) = some (h11 ++ [.arr (evL ⟨n1, kk, 0, 0, 0, 0, 0⟩) .tight]) := store_new rfl rfl
          have f4 : fits (some 7) (.agg (evL ⟨n1, kk, 0, 0, 0, 0, 0⟩)) = true := rfl
          have zz : ([.int .i64 0, .int .i64 0, .int .i64 0, .int .i64 0, .int .i64 0, .int .i64 0, .int .i64 0] : List CV) = evL ev0 := rfl
          have f5 : (evL ⟨n1, kk, 0, 0, 0, 0, 0⟩).length = 7 := rfl
          obtain ⟨sp, eA, e7, e8, e9⟩ : ∃ sp : Spots, h.length = sp.A ∧ h6.length = sp.R7 ∧ h9.length = sp.R8 ∧ h11.length = sp.R9 := ⟨⟨_, _, _, _⟩, rfl, rfl, rfl, rfl⟩
          have h911 : h9.length < h11.length := rd11.lt
          have k1112 : Keep NoneOf h11 (h11 ++ [.arr (evL ⟨n1, kk, 0, 0, 0, 0, 0⟩) .tight]) := Keep.app _ _ _
          have q0 : PsH h sp row ⟨n1, kk, 0, 0, 0, 0, 0⟩ L e1 (h11 ++ [.arr (evL ⟨n1, kk, 0, 0, 0, 0, 0⟩) .tight]) := by
            obtain ⟨v11, ga, sa11⟩ := rd11
            refine ⟨(K10.then k11 fun b hb e => by omega).trans k1112, ?_, ?_, ?_, ⟨v11, ?_, (sa11.lt.mono fun k hk => ⟨by have := hk.1; omega, by have := hk.2; omega⟩).on k1112⟩, by omega, by omega, by omega, by omega, by omega, by omega, by omega, by omega, hwt⟩
            · rw [← eA]; exact k1112.at (k11.at gA10 (by omega)) id
            · rw [← e7]; exact k1112.at (k11.at gR10 (by omega)) id
            · rw [← e9]; simp
            · rw [← e8]; exact k1112.at ga id
          simp only [zz] at f3 ⊢
          simp [f3, ca, f5, st9]
          rw [eA, e7, e8, e9] 
          generalize h11 ++ [Obj.arr (evL ⟨n1, kk, 0, 0, 0, 0, 0⟩) .tight] = H12 at *

          have lR := ld q0.r7
          simp [lR, r1]
          clear lR
          refine W_to (PsI h sp row ⟨n1, kk, (opt (hasTask kk) e1 L).1, 0, 0, 0, 0⟩ (opt (hasTask kk) e1 L).2.2 (opt (hasTask kk) e1 L).2.1) ?_ ?_
          · cases hfl : hasTask kk with
            | false =>
              simp [opt]
              exact ⟨⟨_, rfl⟩, q0⟩
            | true =>
              have hLn : L ≠ [] := by
                intro e0
                have e2 := congrArg List.length e0
                rw [hTl, hfl] at e2
                simp only [if_true, List.length_nil] at e2
                omega
              simp
              refine (evSmall_spec lp q0.rd q0.r8 hLn q0.w).mono ?_
              rintro r h13 ⟨rfl, rd13, k13⟩
              have q13 := q0.read k13 rd13
              have s13 := sto1 q13.r9 (o := 2) (v := .int .i64 (smallR e1 (at_ L 0)).1) (by rw [evL_len]; omega) rfl
              have q14 := q13.lay (⟨n1, kk, (smallR e1 (at_ L 0)).1, 0, 0, 0, 0⟩ : EvV)
              have hset : (evL (⟨n1, kk, 0, 0, 0, 0, 0⟩ : EvV)).set 2 (.int .i64 (smallR e1 (at_ L 0)).1) = evL (⟨n1, kk, (smallR e1 (at_ L 0)).1, 0, 0, 0, 0⟩ : EvV) := rfl
              rw [hset] at s13
              have hopt : opt true e1 L = ((smallR e1 (at_ L 0)).1, (smallR e1 (at_ L 0)).2, L.tail) := rfl
              rw [hopt]
              simp [fits, CV.cells, s13]
              exact ⟨⟨_, rfl⟩, q14⟩
          have lenB : (opt (hasTask kk) e1 L).2.2.length = L.length - (if hasTask kk then 1 else 0) := opt_len
          clear q0
          generalize opt (hasTask kk) e1 L = B at *
          rintro env h1B ⟨⟨rrB, rfl⟩, q1⟩
          have hTl2 : B.2.2.length = (if hasPc kk then 1 else 0) + (if hasErr kk then 1 else 0) + (if hasRest kk then 2 else 0) := by rw [lenB, hTl]; omega
          clear hTl lenB

          have lR := ld q1.r7
          simp [lR, r2]
          clear lR
          refine W_to (PsI h sp row ⟨n1, kk, B.1, (opt (hasPc kk) B.2.1 B.2.2).1, 0, 0, 0⟩ (opt (hasPc kk) B.2.1 B.2.2).2.2 (opt (hasPc kk) B.2.1 B.2.2).2.1) ?_ ?_
          · cases hfl : hasPc kk with
            | false =>
              simp [opt]
              exact ⟨⟨_, rfl⟩, q1⟩
            | true =>
              have hLn : B.2.2 ≠ [] := by
                intro e0
                have e2 := congrArg List.length e0
                rw [hTl2, hfl] at e2
                simp only [if_true, List.length_nil] at e2
                omega
              simp
              refine (evSmall_spec lp q1.rd q1.r8 hLn q1.w).mono ?_
              rintro r h13 ⟨rfl, rd13, k13⟩
              have q13 := q1.read k13 rd13
              have s13 := sto1 q13.r9 (o := 3) (v := .int .i64 (smallR B.2.1 (at_ B.2.2 0)).1) (by rw [evL_len]; omega) rfl
              have q14 := q13.lay (⟨n1, kk, B.1, (smallR B.2.1 (at_ B.2.2 0)).1, 0, 0, 0⟩ : EvV)
              have hset : (evL (⟨n1, kk, B.1, 0, 0, 0, 0⟩ : EvV)).set 3 (.int .i64 (smallR B.2.1 (at_ B.2.2 0)).1) = evL (⟨n1, kk, B.1, (smallR B.2.1 (at_ B.2.2 0)).1, 0, 0, 0⟩ : EvV) := rfl
              rw [hset] at s13
              have hopt : opt true B.2.1 B.2.2 = ((smallR B.2.1 (at_ B.2.2 0)).1, (smallR B.2.1 (at_ B.2.2 0)).2, B.2.2.tail) := rfl
              rw [hopt]
              simp [fits, CV.cells, s13]
              exact ⟨⟨_, rfl⟩, q14⟩
          have lenC : (opt (hasPc kk) B.2.1 B.2.2).2.2.length = B.2.2.length - (if hasPc kk then 1 else 0) := opt_len
          clear q1
          generalize opt (hasPc kk) B.2.1 B.2.2 = C at *
          rintro env h1C ⟨⟨rrC, rfl⟩, q2⟩
          have hTl3 : C.2.2.length = (if hasErr kk then 1 else 0) + (if hasRest kk then 2 else 0) := by rw [lenC, hTl2]; omega
          clear hTl2 lenC

          have lR := ld q2.r7
          simp [lR, r3]
          clear lR
          refine W_to (PsI h sp row ⟨n1, kk, B.1, C.1, (opt (hasErr kk) C.2.1 C.2.2).1, 0, 0⟩ (opt (hasErr kk) C.2.1 C.2.2).2.2 (opt (hasErr kk) C.2.1 C.2.2).2.1) ?_ ?_
          · cases hfl : hasErr kk with
            | false =>
              simp [opt]
              exact ⟨⟨_, rfl⟩, q2⟩
            | true =>
              have hLn : C.2.2 ≠ [] := by
                intro e0
                have e2 := congrArg List.length e0
                rw [hTl3, hfl] at e2
                simp only [if_true, List.length_nil] at e2
                omega
              simp
              refine (evSmall_spec lp q2.rd q2.r8 hLn q2.w).mono ?_
              rintro r h13 ⟨rfl, rd13, k13⟩
              have q13 := q2.read k13 rd13
              have s13 := sto1 q13.r9 (o := 4) (v := .int .i64 (smallR C.2.1 (at_ C.2.2 0)).1) (by rw [evL_len]; omega) rfl
              have q14 := q13.lay (⟨n1, kk, B.1, C.1, (smallR C.2.1 (at_ C.2.2 0)).1, 0, 0⟩ : EvV)
              have hset : (evL (⟨n1, kk, B.1, C.1, 0, 0, 0⟩ : EvV)).set 4 (.int .i64 (smallR C.2.1 (at_ C.2.2 0)).1) = evL (⟨n1, kk, B.1, C.1, (smallR C.2.1 (at_ C.2.2 0)).1, 0, 0⟩ : EvV) := rfl
              rw [hset] at s13
              have hopt : opt true C.2.1 C.2.2 = ((smallR C.2.1 (at_ C.2.2 0)).1, (smallR C.2.1 (at_ C.2.2 0)).2, C.2.2.tail) := rfl
              rw [hopt]
              simp [fits, CV.cells, s13]
              exact ⟨⟨_, rfl⟩, q14⟩
          have lenD : (opt (hasErr kk) C.2.1 C.2.2).2.2.length = C.2.2.length - (if hasErr kk then 1 else 0) := opt_len
          clear q2
          generalize opt (hasErr kk) C.2.1 C.2.2 = D at *
          rintro env h1D ⟨⟨rrD, rfl⟩, q3⟩
          have hTl4 : D.2.2.length = (if hasRest kk then 2 else 0) := by rw [lenD, hTl3]; omega
          clear hTl3 lenD
          have lR := ld q3.r7
          simp [lR, r4]
          clear lR
          obtain ⟨F, hF⟩ : ∃ F, F = opt (hasRest kk) D.2.1 D.2.2 := ⟨_, rfl⟩
          rw [← hF]
          obtain ⟨g, hg⟩ : ∃ g, g = (if hasRest kk then numR F.2.1 (at_ F.2.2 0) else (0, F.2.1)) := ⟨_, rfl⟩
          rw [← hg]
          refine W_to (fun env h' => (∃ r, env = (2, .ptr sp.A 0) :: (8, .ptr sp.R8 0) :: (9, .ptr sp.R9 0) :: r) ∧ ∃ L', PsH h sp row ⟨n1, kk, B.1, C.1, D.1, F.1, g.1⟩ L' g.2 h') ?_ ?_
          · cases hfl : hasRest kk with
            | false =>
              rw [hfl] at hF hg
              subst hF
              simp [opt] at hg
              subst hg
              simp [opt]
              exact ⟨_, q3⟩
            | true =>
              rw [hfl] at hF hg hTl4
              have hTl4 : D.2.2.length = 2 := hTl4
              have hF : F = ((smallR D.2.1 (at_ D.2.2 0)).1, (smallR D.2.1 (at_ D.2.2 0)).2, D.2.2.tail) := hF
              have hg : g = numR F.2.1 (at_ F.2.2 0) := hg
              have hLn : D.2.2 ≠ [] := by
                intro e0
                rw [e0] at hTl4
                simp at hTl4
              have hLn2 : D.2.2.tail ≠ [] := by
                intro e0
                have := congrArg List.length e0
                rw [List.length_tail, hTl4] at this
                simp at this
              simp
              refine (evSmall_spec lp q3.rd q3.r8 hLn q3.w).mono ?_
              rintro r h13 ⟨rfl, rd13, k13⟩
              have q13 := q3.read k13 rd13
              refine (evNumber_spec lp q13.rd q13.r8 hLn2 q13.w).mono ?_
              rintro r h14 ⟨rfl, rd14, k14⟩
              have q14 := q13.read k14 rd14
              rw [hg, hF]
              simp only
              have s14 := sto1 q14.r9 (o := 5) (v := .int .i64 (smallR D.2.1 (at_ D.2.2 0)).1) (by rw [evL_len]; omega) rfl
              have q15 := q14.lay (⟨n1, kk, B.1, C.1, D.1, (smallR D.2.1 (at_ D.2.2 0)).1, 0⟩ : EvV)
              have hset : (evL (⟨n1, kk, B.1, C.1, D.1, 0, 0⟩ : EvV)).set 5 (.int .i64 (smallR D.2.1 (at_ D.2.2 0)).1) = evL (⟨n1, kk, B.1, C.1, D.1, (smallR D.2.1 (at_ D.2.2 0)).1, 0⟩ : EvV) := rfl
              rw [hset] at s14
              have s15 := sto1 q15.r9 (o := 6) (v := .int .i64 (numR (smallR D.2.1 (at_ D.2.2 0)).2 (at_ D.2.2.tail 0)).1) (by rw [evL_len]; omega) rfl
              have q16 := q15.lay (⟨n1, kk, B.1, C.1, D.1, (smallR D.2.1 (at_ D.2.2 0)).1, (numR (smallR D.2.1 (at_ D.2.2 0)).2 (at_ D.2.2.tail 0)).1⟩ : EvV)
              have hset2 : (evL (⟨n1, kk, B.1, C.1, D.1, (smallR D.2.1 (at_ D.2.2 0)).1, 0⟩ : EvV)).set 6 (.int .i64 (numR (smallR D.2.1 (at_ D.2.2 0)).2 (at_ D.2.2.tail 0)).1) = evL (⟨n1, kk, B.1, C.1, D.1, (smallR D.2.1 (at_ D.2.2 0)).1, (numR (smallR D.2.1 (at_ D.2.2 0)).2 (at_ D.2.2.tail 0)).1⟩ : EvV) := rfl
              rw [hset2] at s15
              simp [fits, CV.cells, s14, s15]
              exact ⟨_, q14.lay _⟩
          clear hF hg hTl4 q3
          rintro env h15 ⟨⟨r15, rfl⟩, L', q4⟩
          generalize hX : (⟨n1, kk, B.1, C.1, D.1, F.1, g.1⟩ : EvV) = X at *
          obtain ⟨v15, g15, s15⟩ := q4.r8
          have l8 := ld g15
          have l9 := ldw q4.r9 (evL_len X)
          have gX : ∀ H' : Heap, Keep NoneOf h H' → H'[sp.A]? = some (.arr (evL ev0) .tight) → ∀ y : EvV, storeAt H' sp.A 0 (evL y) = some (H'.set sp.A (.arr (evL y) .tight)) ∧ loadAt (H'.set sp.A (.arr (evL y) .tight)) sp.A 0 (some 7) = some (.agg (evL y)) ∧ Keep NoneOf h (H'.set sp.A (.arr (evL y) .tight)) := fun H' k ga y =>
            ⟨sto ga rfl rfl, ldw (get_set_self (lt_of_get ga)) rfl, k.then (Keep.set (S := fun b => b = sp.A) _ _ rfl) fun b hb e => by have := q4.a0; omega⟩
          have zb2 : fillC (evL ev0) [] = some (evL ev0) := rfl
          have lEX : ∀ y : EvV, (evL y).length = 7 := fun _ => rfl
          by_cases he : g.2 = 0
          · have hch : evFin (X, g.2) = if evCheckP X = 0 then (X, 0) else (ev0, evCheckP X) := by unfold evFin; rw [if_pos he]
            rw [hch]
            simp [l8, he, l9]
            refine (evCheck_spec lp).mono ?_
            rintro r h16 ⟨rfl, k16⟩
            clear hch
            generalize evCheckP X = ck at *
            have g16 := k16.at g15 id
            have sB := sto1 g16 (o := 1) (v := .int .i64 (ck)) (by simp) rfl
            have hset : ([v15, .int .i64 g.2] : List CV).set 1 (.int .i64 (ck)) = [v15, .int .i64 (ck)] := rfl
            rw [hset] at sB
            have kB' : Keep (fun b => b = sp.R8) h16 (h16.set sp.R8 (.arr [v15, .int .i64 (ck)] .tight)) := Keep.set _ _ rfl
            have K17 : Keep NoneOf h (h16.set sp.R8 (.arr [v15, .int .i64 (ck)] .tight)) := (q4.k.trans k16).then kB' fun b hb e => by have := q4.b0; omega
            have gA17 := kB'.at (k16.at q4.a id) q4.d1
            have gR17 := get_set_self (o := .arr [v15, .int .i64 (ck)] .tight) (lt_of_get g16)
            have g917 := kB'.at (k16.at q4.r9 id) (fun e => q4.d5 e.symm)
            have l17 := ld gR17
            have l917 := ldw g917 (evL_len X)
            generalize hH17 : h16.set sp.R8 (.arr [v15, .int .i64 (ck)] .tight) = H17 at *
            by_cases hc : ck = 0
            · subst hc
              obtain ⟨z1, z2, z3⟩ := gX H17 K17 gA17 X
              simp [fits, CV.cells, sB, l17, l917, lEX, z1, z2]
              exact z3
            · obtain ⟨z1, z2, z3⟩ := gX H17 K17 gA17 ev0
              have l18 := ld ((Keep.set (S := fun b => b = sp.A) H17 (.arr (evL ev0) .tight) rfl).at gR17 (fun e => q4.d1 e.symm))
              simp [fits, CV.cells, sB, l17, hc, zb2]
              refine WO_re_n ?_
              simp [fits, CV.cells, lEX, z1]
              refine ⟨fun c => by simp [recheckB, wanted, Env.get, cls, evOp, Opd.ev, withH, CV.eqb, l18, CV.eqb_refl], ?_⟩
              simp [z2]
              exact z3
          · have hch : evFin (X, g.2) = (ev0, g.2) := by unfold evFin; rw [if_neg he]
            rw [hch]
            obtain ⟨z1, z2, z3⟩ := gX h15 q4.k q4.a ev0
            have l18 := ld ((Keep.set (S := fun b => b = sp.A) h15 (.arr (evL ev0) .tight) rfl).at g15 (fun e => q4.d1 e.symm))
            simp [l8, he, zb2]
            refine WO_re_n ?_
            simp [fits, CV.cells, lEX, z1]
            refine ⟨fun c => by simp [recheckB, wanted, Env.get, cls, evOp, Opd.ev, withH, CV.eqb, l18, CV.eqb_refl], ?_⟩
            simp [z2]
            exact z3
        · have hP : evParse s = (ev0, 2) := by unfold evParse; rw [hws]; simp only; rw [hK, if_pos (.inr (.inr hf))]
          obtain ⟨q1, q2⟩ := ret0 K5 gA5 hP
          have hf' : ¬ (l.length : Int) = evFields kk := by omega
          rw [hP]
          simp [hf', ca, zb, lE, stA _ gA5, q1]
          exact q2

end Go.Cl

namespace Go.Cl
open Go
set_option linter.unusedSimpArgs false
set_option linter.unusedVariables false
set_option maxHeartbeats 1000000

variable {p : PP}

/-! ### plain -/

theorem smallR_err {e : Int} (he : e ≠ 0) (a : Wd) : smallR e a = (0, e) := by
  unfold smallR
  rw [numR_err he]
  simp only
  rw [if_neg (fun h => he h.1)]

theorem smallR_pair {a : Wd} (h : (smallR 0 a).2 = 0) : smallR 0 a = ((smallR 0 a).1, 0) := Prod.ext rfl h

/-- so many words are numbers of 32 bits -/
def wantOf (k : Int) : Nat := if k = 8 then 2 else if k = 2 ∨ k = 5 then 4 else if k = 4 then 7 else 3

theorem want_fields {k : Int} (h0 : 1 ≤ k) (h8 : k ≤ 8) : wantOf k = evFields k := by
  rcases kinds8 h0 h8 with rfl | rfl | rfl | rfl | rfl | rfl | rfl | rfl <;> rfl

theorem at_drop (l : List Wd) (n i : Nat) : at_ (l.drop n) i = at_ l (n + i) := by simp [at_]
theorem at_tail (l : List Wd) (i : Nat) : at_ l.tail i = at_ l (i + 1) := by cases l <;> simp [at_]
theorem opt_true {e : Int} {l : List Wd} : opt true e l = ((smallR e (at_ l 0)).1, (smallR e (at_ l 0)).2, l.tail) := rfl
theorem opt_false {e : Int} {l : List Wd} : opt false e l = (0, e, l) := rfl

theorem evFin_err {x : EvV} {e : Int} (he : e ≠ 0) : evFin (x, e) = (ev0, e) := by unfold evFin; rw [if_neg he]

theorem read_num {k : Int} {l : List Wd} (h0 : 1 ≤ k) (h8 : k ≤ 8) {e : Int} (hn : (numP (at_ l 0)).2 = e) (he : e ≠ 0) : evFin (evRead k l) = (ev0, e) := by
  have hN : (numR 0 (at_ l 0)).2 = e := hn
  have hz : ∀ a, smallR e a = (0, e) := smallR_err he
  have hz2 : ∀ a, numR e a = (0, e) := numR_err he
  have ho : ∀ b l, (opt b e l).2.1 = e := fun b l => by cases b <;> simp [opt, hz]
  have : (evRead k l).2 = e := by
    unfold evRead
    simp only [hN]
    simp only [ho]
    split
    · rw [hz2]
    · rfl
  rw [show evRead k l = ((evRead k l).1, (evRead k l).2) from rfl, this, evFin_err he]

theorem read_small {k : Int} {l : List Wd} (h0 : 1 ≤ k) (h8 : k ≤ 8) (hn : (numP (at_ l 0)).2 = 0) {i : Nat} (i2 : 2 ≤ i) (iw : i < wantOf k) (i6 : i < 6) (hp : ∀ j, 2 ≤ j → j < i → (smallR 0 (at_ l j)).2 = 0) {e : Int} (hs : (smallR 0 (at_ l i)).2 = e) (he : e ≠ 0) : evFin (evRead k l) = (ev0, e) := by
  have hN : (numR 0 (at_ l 0)).2 = 0 := hn
  have hz : ∀ a, smallR e a = (0, e) := smallR_err he
  have hz2 : ∀ a, numR e a = (0, e) := numR_err he
  have : (evRead k l).2 = e := by
    have hi : i = 2 ∨ i = 3 ∨ i = 4 ∨ i = 5 := by omega
    have p2 : 2 < i → (smallR 0 (at_ l 2)).2 = 0 := hp 2 (by omega)
    have p3 : 3 < i → (smallR 0 (at_ l 3)).2 = 0 := hp 3 (by omega)
    have p4 : 4 < i → (smallR 0 (at_ l 4)).2 = 0 := hp 4 (by omega)
    rcases kinds8 h0 h8 with rfl | rfl | rfl | rfl | rfl | rfl | rfl | rfl <;> rcases hi with rfl | rfl | rfl | rfl <;> (try (exact absurd iw (by decide))) <;>
      simp [evRead, hasTask, hasPc, hasErr, hasRest, opt_true, opt_false, hN, at_drop, at_tail, hs, hz, hz2] <;> simp_all
  rw [show evRead k l = ((evRead k l).1, (evRead k l).2) from rfl, this, evFin_err he]

theorem read_v {l : List Wd} (hn : (numP (at_ l 0)).2 = 0) (hp : ∀ j, 2 ≤ j → j < 6 → (smallR 0 (at_ l j)).2 = 0) : evRead 4 l = (⟨(numP (at_ l 0)).1, 4, (smallR 0 (at_ l 2)).1, (smallR 0 (at_ l 3)).1, (smallR 0 (at_ l 4)).1, (smallR 0 (at_ l 5)).1, (numP (at_ l 6)).1⟩, (numP (at_ l 6)).2) := by
  have hN : numR 0 (at_ l 0) = ((numP (at_ l 0)).1, 0) := Prod.ext rfl hn
  have p2 := hp 2 (by omega) (by omega)
  have p3 := hp 3 (by omega) (by omega)
  have p4 := hp 4 (by omega) (by omega)
  have p5 := hp 5 (by omega) (by omega)
  have hV : numR 0 (at_ l 6) = numP (at_ l 6) := rfl
  simp [evRead, hasTask, hasPc, hasErr, hasRest, opt_true, opt_false, hN, at_drop, at_tail, p2, p3, p4, p5, hV]

theorem read_2 {l : List Wd} (hn : (numP (at_ l 0)).2 = 0) (hp : ∀ j, 2 ≤ j → j < 4 → (smallR 0 (at_ l j)).2 = 0) : evRead 2 l = (⟨(numP (at_ l 0)).1, 2, (smallR 0 (at_ l 2)).1, 0, (smallR 0 (at_ l 3)).1, 0, 0⟩, 0) := by
  have hN : numR 0 (at_ l 0) = ((numP (at_ l 0)).1, 0) := Prod.ext rfl hn
  have p2 := hp 2 (by omega) (by omega)
  have p3 := hp 3 (by omega) (by omega)
  simp [evRead, hasTask, hasPc, hasErr, hasRest, opt_true, opt_false, hN, at_drop, at_tail, p2, p3]

theorem read_5 {l : List Wd} (hn : (numP (at_ l 0)).2 = 0) (hp : ∀ j, 2 ≤ j → j < 4 → (smallR 0 (at_ l j)).2 = 0) : evRead 5 l = (⟨(numP (at_ l 0)).1, 5, (smallR 0 (at_ l 2)).1, (smallR 0 (at_ l 3)).1, 0, 0, 0⟩, 0) := by
  have hN : numR 0 (at_ l 0) = ((numP (at_ l 0)).1, 0) := Prod.ext rfl hn
  have p2 := hp 2 (by omega) (by omega)
  have p3 := hp 3 (by omega) (by omega)
  simp [evRead, hasTask, hasPc, hasErr, hasRest, opt_true, opt_false, hN, at_drop, at_tail, p2, p3]

theorem read_8 {l : List Wd} (hn : (numP (at_ l 0)).2 = 0) : evRead 8 l = (⟨(numP (at_ l 0)).1, 8, 0, 0, 0, 0, 0⟩, 0) := by
  have hN : numR 0 (at_ l 0) = ((numP (at_ l 0)).1, 0) := Prod.ext rfl hn
  simp [evRead, hasTask, hasPc, hasErr, hasRest, opt_true, opt_false, hN]

theorem read_1 {k : Int} {l : List Wd} (h0 : 1 ≤ k) (h8 : k ≤ 8) (k2 : k ≠ 2) (k4 : k ≠ 4) (k5 : k ≠ 5) (k8 : k ≠ 8) (hn : (numP (at_ l 0)).2 = 0) (hp : (smallR 0 (at_ l 2)).2 = 0) : evRead k l = (⟨(numP (at_ l 0)).1, k, (smallR 0 (at_ l 2)).1, 0, 0, 0, 0⟩, 0) := by
  have hN : numR 0 (at_ l 0) = ((numP (at_ l 0)).1, 0) := Prod.ext rfl hn
  simp [evRead, hasTask, hasPc, hasErr, hasRest, opt_true, opt_false, hN, at_drop, at_tail, k2, k4, k5, k8, hp]

/-! ### the walk -/

theorem refSmall_spec (lp : LP p) {s : Wd} {h : Heap} (hs : s.length < 4294967281) : WF p 138 [.str s] h fun r h' => r = .tup [.int .i64 (if (smallR 0 s).2 = 0 then (smallR 0 s).1 else 0), .int .i64 (smallR 0 s).2] ∧ Keep NoneOf h h' := by
  refine WF_of (by rw [lp.pg]; exact S.pg138) (lp.no ⟨rfl, rfl⟩) ?_
  show W p S.b138 _ _ (retQ [.t 2, .t 3] _)
  unfold S.b138
  have hN : smallR 0 s = if (numP s).2 = 0 ∧ ((numP s).1 < -2147483648 ∨ 2147483647 < (numP s).1) then ((numP s).1, 14) else numP s := rfl
  simp
  refine (refNumber_spec lp hs).mono ?_
  rintro r h1 ⟨rfl, k1⟩
  rw [hN]
  generalize numP s = N
  obtain ⟨n, e⟩ := N
  by_cases he : e = 0
  · subst he
    by_cases h1' : n < -2147483648
    · simp [h1']; exact k1
    · by_cases h2' : 2147483647 < n
      · simp [h1', h2']; exact k1
      · simp [h1', h2']; exact k1
  · simp [he]; exact k1

structure RfH (h : Heap) (A X : Nat) (v : CV) (l : List Wd) (y : EvV) (h' : Heap) : Prop where
  k : Keep NoneOf h h'
  a : h'[A]? = some (.arr (evL ev0) .tight)
  x : h'[X]? = some (.arr (evL y) .tight)
  w : Sl .str h' (fun k => k ≠ A ∧ k < X) v l
  a0 : h.length ≤ A
  x0 : h.length ≤ X
  d : A ≠ X

theorem RfH.on {h : Heap} {A X : Nat} {v : CV} {l : List Wd} {y : EvV} {h1 h2 : Heap} (q : RfH h A X v l y h1) (k : Keep NoneOf h1 h2) : RfH h A X v l y h2 :=
  ⟨q.k.trans k, k.at q.a id, k.at q.x id, q.w.on k, q.a0, q.x0, q.d⟩

theorem RfH.lay {h : Heap} {A X : Nat} {v : CV} {l : List Wd} {y : EvV} (z : EvV) {h1 : Heap} (q : RfH h A X v l y h1) : RfH h A X v l z (h1.set X (.arr (evL z) .tight)) := by
  have ke : Keep (fun b => b = X) h1 (h1.set X (.arr (evL z) .tight)) := Keep.set _ _ rfl
  exact ⟨q.k.then ke fun b hb e => by have := q.x0; omega, ke.at q.a q.d, get_set_self (lt_of_get q.x), q.w.keep ke fun k hk e => by have := hk.2; omega, q.a0, q.x0, q.d⟩

theorem RfH.ret {h : Heap} {A X : Nat} {v : CV} {l : List Wd} {y : EvV} {h1 : Heap} (q : RfH h A X v l y h1) (z : EvV) : storeAt h1 A 0 (evL z) = some (h1.set A (.arr (evL z) .tight)) ∧ loadAt (h1.set A (.arr (evL z) .tight)) A 0 (some 7) = some (.agg (evL z)) ∧ Keep NoneOf h (h1.set A (.arr (evL z) .tight)) :=
  ⟨sto q.a rfl rfl, ldw (get_set_self (lt_of_get q.a)) rfl, q.k.then (Keep.set (S := fun b => b = A) _ _ rfl) fun b hb e => by have := q.a0; omega⟩

def kUpTo (k : Int) (i : Nat) : Int := if k < i then k else 0

def RnI (h : Heap) (A X : Nat) (v nv : CV) (l : List Wd) (k : Int) (m : Nat) (e : Env) (h' : Heap) : Prop :=
  ∃ i : Nat, 1 ≤ i ∧ i ≤ 9 ∧ m = 10 - i ∧ e = [(2, .ptr A 0), (4, v), (6, .ptr X 0), (7, nv), (8, .int .i64 i)] ∧ RfH h A X v l ⟨0, kUpTo k i, 0, 0, 0, 0, 0⟩ h' ∧ Sl .str h' (fun b => b ≠ X) nv namesL

def Ins (l : List Wd) (i j : Nat) : Int := if j + 2 < i then (smallR 0 (at_ l (j + 2))).1 else 0

def RgI (h : Heap) (A X N : Nat) (v : CV) (l : List Wd) (y : EvV) (want : Nat) (m : Nat) (e : Env) (h' : Heap) : Prop :=
  ∃ i : Nat, 2 ≤ i ∧ i ≤ 6 ∧ (i = 2 ∨ i ≤ want) ∧ m = 7 - i ∧ e = [(2, .ptr A 0), (4, v), (6, .ptr X 0), (9, .int .i64 want), (10, .sl N 0 4 4), (11, .int .i64 i)] ∧ RfH h A X v l y h' ∧
    h'[N]? = some (.arr [.int .i64 (Ins l i 0), .int .i64 (Ins l i 1), .int .i64 (Ins l i 2), .int .i64 (Ins l i 3)] .tight) ∧ ∀ j, 2 ≤ j → j < i → (smallR 0 (at_ l j)).2 = 0

theorem refParse_spec (lp : LP p) {s : Wd} {h : Heap} (hs : s.length ≤ 100000) : WF p 116 [.str s] h fun r h' => r = .tup [.agg (evL (evParse s).1), .int .i64 (evParse s).2] ∧ Keep NoneOf h h' := by
  refine WF_of (by rw [lp.pg]; exact S.pg116) (lp.no ⟨rfl, rfl⟩) ?_
  show W p S.b116 _ _ (retQ [.cell (some 7) 2, .t 3] _)
  unfold S.b116
  have ca : ∀ l, (CV.agg l).cells = l := fun _ => rfl
  simp [ca]
  refine (refSplit_spec lp (by omega)).mono ?_
  rintro r h1 ⟨wv, rfl, sl, k1⟩
  have gA := k1.at (b := h.length) (o := .arr (evL ev0) .tight) (by simp [evL, ev0]) id
  have K1 : Keep NoneOf h h1 := (Keep.app _ _ _).trans k1
  have zb : fillC [.int .i64 0, .int .i64 0, .int .i64 0, .int .i64 0, .int .i64 0, .int .i64 0, .int .i64 0] [] = some (evL ev0) := rfl
  have lE : ∀ y : EvV, (evL y).length = 7 := fun _ => rfl
  have hlt1 : h.length < h1.length := lt_of_get gA
  have ret0 : ∀ {H' : Heap}, Keep NoneOf h H' → H'[h.length]? = some (.arr (evL ev0) .tight) → storeAt H' h.length 0 (evL ev0) = some (H'.set h.length (.arr (evL ev0) .tight)) ∧ (loadAt (H'.set h.length (.arr (evL ev0) .tight)) h.length 0 (some 7) = some (.agg (evL ev0))) ∧ Keep NoneOf h (H'.set h.length (.arr (evL ev0) .tight)) := fun {H'} k g =>
    ⟨sto g rfl rfl, ldw (get_set_self (lt_of_get g)) rfl, k.then (Keep.set (S := fun b => b = h.length) _ _ rfl) fun b hb e => by omega⟩
  cases hws : wordsP s with
  | none =>
    have hP : evParse s = (ev0, 2) := by unfold evParse; rw [hws]
    obtain ⟨q0, q1, q2⟩ := ret0 K1 gA
    rw [hP]
    simp [errOf, zb, ca, lE, q0, q1]
    exact q2
  | some l =>
    rw [hws] at sl
    have sl : Sl .str h1 (From (h ++ [.arr (evL ev0) .tight])) wv l := sl
    have nl := sl.len (by decide)
    have hwn := words_ne hws
    have hll := words_len hws
    by_cases h2 : l.length < 2
    · have hP : evParse s = (ev0, 2) := by unfold evParse; rw [hws]; simp only; rw [if_pos (.inl h2)]
      obtain ⟨q0, q1, q2⟩ := ret0 K1 gA
      rw [hP]
      have h2' : (l.length : Int) < 2 := by omega
      simp [errOf, nl, h2', zb, ca, lE, q0, q1]
      exact q2
    · have h2' : ¬ (l.length : Int) < 2 := by omega
      have zz : ([.int .i64 0, .int .i64 0, .int .i64 0, .int .i64 0, .int .i64 0, .int .i64 0, .int .i64 0] : List CV) = evL ev0 := rfl
      have stX : storeAt (h1 ++ [.arr (evL ev0) .tight]) h1.length 0 (evL ev0) = some (h1 ++ [.arr (evL ev0) .tight]) := store_new rfl rfl
      have zb2 : fillC (evL ev0) [] = some (evL ev0) := rfl
      simp only [zz]
      simp [errOf, nl, h2', zb2, ca, lE, stX]
      have q0 : RfH h h.length h1.length wv l ev0 (h1 ++ [.arr (evL ev0) .tight]) :=
        ⟨K1.trans (Keep.app _ _ _), (Keep.app NoneOf _ _).at gA id, by simp, (sl.lt.mono fun k hk => ⟨by have := hk.1; simp [From] at this; omega, hk.2⟩).on (Keep.app _ _ _), Nat.le_refl _, by omega, by omega⟩
      generalize h1 ++ [Obj.arr (evL ev0) .tight] = H at *
      refine (names_spec lp).mono ?_
      rintro r h3 ⟨nv, rfl, sn, k3⟩
      have q1 := q0.on k3
      have hX3 := lt_of_get q0.x
      have sn' : Sl .str h3 (fun b => b ≠ h1.length) r namesL := sn.mono fun k hk => by simp [From] at hk; omega
      clear q0 sn k3 stX nl
      obtain ⟨A, hA⟩ : ∃ A, h.length = A := ⟨_, rfl⟩
      obtain ⟨X, hX⟩ : ∃ X, h1.length = X := ⟨_, rfl⟩
      rw [hA, hX] at q1 ⊢
      rw [hX] at sn'
      have hl1 : 1 < l.length := by omega
      have hat1 : at_ l 1 = l[1] := by simp [at_, List.getElem?_eq_getElem hl1]
      have hw1 : at_ l 1 ≠ [] := by rw [hat1]; exact (hwn _ (List.getElem_mem hl1)).1
      have hk8 := evKind_le (at_ l 1)
      refine W_loop (RnI h A X wv r l (evKind (at_ l 1))) ?_ 9 ⟨1, by omega, by omega, rfl, rfl, ?_, sn'⟩
      · rintro m e h4 ⟨i, i1, i9, rfl, rfl, q4, sn4⟩
        have n9 := sn4.len (by decide)
        have n9 : lenV h4 .sl r = some (.int .i64 9) := n9
        by_cases hie : i = 9
        · subst hie
          have hup : kUpTo (evKind (at_ l 1)) 9 = evKind (at_ l 1) := by unfold kUpTo; rw [if_pos (by omega)]
          rw [hup] at q4
          have l6 := ld q4.x
          by_cases k0 : evKind (at_ l 1) = 0
          · have hP : evParse s = (ev0, 2) := by unfold evParse; rw [hws]; simp only; rw [if_pos (.inr (.inl (by omega)))]
            obtain ⟨z1, z2, z3⟩ := q4.ret ev0
            rw [hP]
            simp [n9, l6, evL_1, k0]
            simp [zb2, ca, lE, z1, z2]
            exact z3
          · have kk1 : 1 ≤ evKind (at_ l 1) := by omega
            have hEP : evParse s = if l.length = wantOf (evKind (at_ l 1)) then evFin (evRead (evKind (at_ l 1)) l) else (ev0, 2) := by
              unfold evParse
              rw [hws]
              simp only
              rw [want_fields kk1 hk8.2]
              by_cases hf : l.length = evFields (evKind (at_ l 1))
              · rw [if_pos hf, if_neg (by omega)]
              · rw [if_neg hf, if_pos (.inr (.inr hf))]
            rw [hEP]
            clear hEP sn' q1 hup
            generalize evKind (at_ l 1) = kk at *
            simp [n9, l6, evL_1, k0]
            refine W_toB (fun e' h' => (∃ r, e' = (2, .ptr A 0) :: (4, wv) :: (6, .ptr X 0) :: (9, .int .i64 (wantOf kk)) :: r) ∧ h' = h4) ?_ ?_
            · by_cases a8 : kk = 8
              · simp [a8, wantOf]
              · by_cases a2 : kk = 2
                · simp [a2, wantOf]
                · by_cases a5 : kk = 5
                  · simp [a5, wantOf]
                  · by_cases a4 : kk = 4
                    · simp [a4, wantOf]
                    · simp [a8, a2, a5, a4, wantOf]
            rintro e' h' ⟨⟨r9, rfl⟩, rfl⟩
            have nl4 := q4.w.len (by decide)
            have hw7 : wantOf kk ≤ 7 := by unfold wantOf; repeat' split
                                           all_goals omega
            have hw2 : 2 ≤ wantOf kk := by unfold wantOf; repeat' split
                                           all_goals omega
            by_cases hlw : l.length = wantOf kk
            · have hlw' : (l.length : Int) = wantOf kk := by omega
              rw [if_pos hlw]
              simp [nl4, hlw']
              have hl0 : 0 < l.length := by omega
              have hat0 : at_ l 0 = l[0] := by simp [at_, List.getElem?_eq_getElem hl0]
              obtain ⟨b1, o1, row1, y1, y2, y3, y4⟩ := q4.w.row (k := .i64) (by decide) hl0
              have y4 : row1 = [.str (at_ l 0)] := by rw [hat0]; exact y4
              have y1 : idxAddrV 1 wv (.int .i64 0) = some (.ptr b1 o1) := y1
              simp only [Cod.str] at y3
              have y5 := y3 0 (by decide)
              rw [y4] at y5
              simp at y5
              simp [y1, y5]
              have hwl : ∀ j (hj : j < l.length), (at_ l j).length < 4294967281 := fun j hj => by
                have : at_ l j = l[j] := by simp [at_, List.getElem?_eq_getElem hj]
                rw [this]
                have := (hwn _ (List.getElem_mem hj)).2
                omega
              refine (refNumber_spec lp (hwl 0 hl0)).mono ?_
              rintro r h5 ⟨rfl, k5⟩
              have q5 := q4.on k5
              have sB := sto1 q5.x (o := 0) (v := .int .i64 (numP (at_ l 0)).1) (by rw [evL_len]; omega) rfl
              have q6 := q5.lay (⟨(numP (at_ l 0)).1, kk, 0, 0, 0, 0, 0⟩ : EvV)
              have hset : (evL (⟨0, kk, 0, 0, 0, 0, 0⟩ : EvV)).set 0 (.int .i64 (numP (at_ l 0)).1) = evL (⟨(numP (at_ l 0)).1, kk, 0, 0, 0, 0, 0⟩ : EvV) := rfl
              rw [hset] at sB
              have hne := fun e (h1 : (numP (at_ l 0)).2 = e) (h2 : e ≠ 0) => read_num kk1 hk8.2 h1 h2
              obtain ⟨n1, hn1⟩ : ∃ n1, n1 = (numP (at_ l 0)).1 := ⟨_, rfl⟩
              obtain ⟨e1, he1⟩ : ∃ e1, e1 = (numP (at_ l 0)).2 := ⟨_, rfl⟩
              rw [← hn1] at sB q6
              rw [← hn1, ← he1]
              by_cases he : e1 = 0
              · subst he
                simp [fits, CV.cells, sB]
                have hN6 : h5.length = (h5.set X (.arr (evL (⟨n1, kk, 0, 0, 0, 0, 0⟩ : EvV)) .tight)).length := by simp
                generalize h5.set X (.arr (evL (⟨n1, kk, 0, 0, 0, 0, 0⟩ : EvV)) .tight) = H6 at *
                have hXl := lt_of_get q6.x
                have hAl := lt_of_get q6.a
                have f4 : fillC [.int .i64 0, .int .i64 0, .int .i64 0, .int .i64 0] [(0, 1, .int .i64 0), (1, 1, .int .i64 0), (2, 1, .int .i64 0), (3, 1, .int .i64 0)] = some [.int .i64 0, .int .i64 0, .int .i64 0, .int .i64 0] := rfl
                simp [f4]
                rw [hN6]
                refine W_loop (RgI h A X H6.length wv l ⟨n1, kk, 0, 0, 0, 0, 0⟩ (wantOf kk)) ?_ 5 ⟨2, by omega, by omega, .inl rfl, rfl, rfl, q6.on (Keep.app _ _ _), by simp [Ins], fun j _ hj => by omega⟩
                rintro m e h7 ⟨i, i2, i6, hiw, rfl, rfl, q7, g7, hok⟩
                have l7 := ld g7
                by_cases hgo : i < wantOf kk ∧ i < 6
                · obtain ⟨hgo1, hgo2⟩ := hgo
                  have a1 : (i : Int) < wantOf kk := by omega
                  have a2 : (i : Int) < 6 := by omega
                  have hil : i < l.length := by omega
                  have hati : at_ l i = l[i] := by simp [at_, List.getElem?_eq_getElem hil]
                  obtain ⟨b2, o2, row2, z1, z2, z3, z4⟩ := q7.w.row (k := .i64) (by decide) hil
                  have z4 : row2 = [.str (at_ l i)] := by rw [hati]; exact z4
                  simp only [Cod.str] at z1 z3
                  have z5 := z3 0 (by decide)
                  rw [z4] at z5
                  simp at z5
                  obtain ⟨j, hj⟩ : ∃ j : Nat, i = j + 2 := ⟨i - 2, by omega⟩
                  have w1 : IntKind.i64.wrap ((i : Int) - 2) = (j : Int) := by rw [w64 (by omega) (by omega)]; omega
                  have w2 : IntKind.i64.wrap ((i : Int) + 1) = ((i + 1 : Nat) : Int) := by rw [w64 (by omega) (by omega)]; omega
                  have w3 : (j : Int) < 4 := by omega
                  simp [a1, a2, z1, z5, w1, w3]
                  refine (refSmall_spec lp (hwl i hil)).mono ?_
                  rintro r h8 ⟨rfl, k8⟩
                  have q8 := q7.on k8
                  have g8 := k8.at g7 id
                  have hNX : H6.length ≠ X := by omega
                  have hNA : H6.length ≠ A := by omega
                  have sN := fun z => sto1 g8 (o := j) (v := .int .i64 z) (by simp; omega) rfl
                  have kN : ∀ cs, Keep (fun b => b = H6.length) h8 (h8.set H6.length (.arr cs .tight)) := fun cs => Keep.set _ _ rfl
                  have qN : ∀ cs, RfH h A X wv l ⟨n1, kk, 0, 0, 0, 0, 0⟩ (h8.set H6.length (.arr cs .tight)) := fun cs =>
                    ⟨q8.k.then (kN cs) fun b hb e => by have := q6.k.len; omega, (kN cs).at q8.a (by omega), (kN cs).at q8.x (by omega), q8.w.keep (kN cs) fun k hk e => by have := hk.2; omega, q8.a0, q8.x0, q8.d⟩
                  by_cases hse : (smallR 0 (at_ l i)).2 = 0
                  · simp [hse, fits, CV.cells, sN, w2]
                    refine ⟨7 - (i + 1), by omega, i + 1, by omega, by omega, .inr (by omega), rfl, rfl, qN _, ?_, fun j' h1 h2 => ?_⟩
                    · rw [get_set_self (lt_of_get g8)]
                      have hnew : ∀ q : Nat, q ≠ j → Ins l (i + 1) q = Ins l i q := fun q hq => by
                        unfold Ins
                        by_cases hqi : q + 2 < i
                        · rw [if_pos (by omega), if_pos hqi]
                        · rw [if_neg (by omega), if_neg hqi]
                      have hnj : Ins l (i + 1) j = (smallR 0 (at_ l i)).1 := by
                        unfold Ins
                        rw [if_pos (by omega), hj]
                      have hj4 : j = 0 ∨ j = 1 ∨ j = 2 ∨ j = 3 := by omega
                      rcases hj4 with hj0 | hj0 | hj0 | hj0 <;> rw [hj0] at hnj hnew ⊢ <;> simp [hnj, hnew]
                    · by_cases hji : j' = i
                      · rw [hji]; exact hse
                      · exact hok j' h1 (by omega)
                  · have hfin := read_small kk1 hk8.2 he1.symm i2 hgo1 hgo2 hok rfl hse
                    rw [hfin]
                    obtain ⟨u1, u2, u3⟩ := (qN ((([.int .i64 (Ins l i 0), .int .i64 (Ins l i 1), .int .i64 (Ins l i 2), .int .i64 (Ins l i 3)] : List CV)).set j (.int .i64 0))).ret ev0
                    simp [hse, fits, CV.cells, sN]
                    simp [zb2, lE, u1, u2]
                    exact u3
                · have hx2 := sto1 q7.x (o := 2) (v := .int .i64 (Ins l i 0)) (by rw [evL_len]; omega) rfl
                  have q8 := q7.lay (⟨n1, kk, Ins l i 0, 0, 0, 0, 0⟩ : EvV)
                  have hset8 : (evL (⟨n1, kk, 0, 0, 0, 0, 0⟩ : EvV)).set 2 (.int .i64 (Ins l i 0)) = evL (⟨n1, kk, Ins l i 0, 0, 0, 0, 0⟩ : EvV) := rfl
                  rw [hset8] at hx2
                  have hNX : X ≠ H6.length := by omega
                  have g8 : (h7.set X (.arr (evL (⟨n1, kk, Ins l i 0, 0, 0, 0, 0⟩ : EvV)) .tight))[H6.length]? = _ := (Keep.set (S := fun b => b = X) h7 (.arr (evL (⟨n1, kk, Ins l i 0, 0, 0, 0, 0⟩ : EvV)) .tight) rfl).at g7 (by omega)
                  have l8 := ld g8
                  have l8x := ld q8.x
                  have hexit : (i : Int) < wantOf kk → ¬ (i : Int) < 6 := fun h1 h2 => hgo ⟨by omega, by omega⟩
                  generalize hH8 : h7.set X (.arr (evL (⟨n1, kk, Ins l i 0, 0, 0, 0, 0⟩ : EvV)) .tight) = H8 at *
                  -- which fields there are
                  have in4 : ∀ j, j + 2 < i → Ins l i j = (smallR 0 (at_ l (j + 2))).1 := fun j hj => by unfold Ins; rw [if_pos hj]
                  have in0 : ∀ j, ¬ j + 2 < i → Ins l i j = 0 := fun j hj => by unfold Ins; rw [if_neg hj]
                  simp
                  refine WO_cut (fun e' => e'.get 2 = some (.ptr A 0) ∧ e'.get 4 = some wv ∧ e'.get 6 = some (.ptr X 0) ∧ e'.get 9 = some (.int .i64 (wantOf kk)) ∧ e'.get 10 = some (.sl H6.length 0 4 4) ∧ e'.get 11 = some (.int .i64 i) ∧ e'.get 79 = some (.bool false)) ?_ ?_
                  · by_cases c1 : (i : Int) < wantOf kk
                    · have c2 := hexit c1
                      have c1n : i < wantOf kk := by omega
                      have c2n : ¬ i < 6 := by omega
                      simp [c1, c2, c1n, c2n]
                    · have c1n : ¬ i < wantOf kk := by omega
                      simp [c1, c1n]
                  rintro e' ⟨u1, u2, u3, u4, u5, u6, u7⟩
                  simp [u1, u2, u3, u4, u5, u6, u7, l7, fits, CV.cells, hx2, l8, l8x, evL_1]
                  clear u1 u2 u3 u4 u5 u6 u7 e'
                  have hlayN : ∀ (y : EvV) (o : Nat) (z : Int) (y' : EvV) {H' : Heap}, o < 7 → (evL y).set o (.int .i64 z) = evL y' → RfH h A X wv l y H' → storeAt H' X o [.int .i64 z] = some (H'.set X (.arr (evL y') .tight)) := fun y o z y' {H'} ho hs q => by
                    have := sto1 q.x (o := o) (v := .int .i64 z) (by rw [evL_len]; exact ho) rfl
                    rw [hs] at this
                    exact this
                  refine W_toB (fun e' h' => (∃ r, e' = (2, .ptr A 0) :: r ∧ Env.get ((2, .ptr A 0) :: r) 6 = some (.ptr X 0)) ∧ ∃ y, RfH h A X wv l y h' ∧ evRead kk l = (y, 0)) ?_ ?_
                  · by_cases a2 : kk = 2
                    · subst a2
                      have hi4 : i = 4 := by simp [wantOf] at hgo hiw; omega
                      subst hi4
                      have hr := read_2 he1.symm fun j h1 h2 => hok j h1 h2
                      rw [show Ins l _ 0 = (smallR 0 (at_ l 2)).1 from in4 0 (by omega)] at q8
                      have hin := in4 1 (by omega)
                      have hs1 := hlayN (⟨n1, 2, (smallR 0 (at_ l 2)).1, 0, 0, 0, 0⟩ : EvV) 4 (smallR 0 (at_ l 3)).1 (⟨n1, 2, (smallR 0 (at_ l 2)).1, 0, (smallR 0 (at_ l 3)).1, 0, 0⟩ : EvV) (by omega) rfl q8
                      simp [l8, hin, fits, CV.cells, hs1]
                      refine ⟨_, q8.lay _, ?_⟩
                      rw [hr, ← hn1]
                    · by_cases a5 : kk = 5
                      · subst a5
                        have hi4 : i = 4 := by simp [wantOf] at hgo hiw; omega
                        subst hi4
                        have hr := read_5 he1.symm fun j h1 h2 => hok j h1 h2
                        rw [show Ins l _ 0 = (smallR 0 (at_ l 2)).1 from in4 0 (by omega)] at q8
                        have hin := in4 1 (by omega)
                        have hs1 := hlayN (⟨n1, 5, (smallR 0 (at_ l 2)).1, 0, 0, 0, 0⟩ : EvV) 3 (smallR 0 (at_ l 3)).1 (⟨n1, 5, (smallR 0 (at_ l 2)).1, (smallR 0 (at_ l 3)).1, 0, 0, 0⟩ : EvV) (by omega) rfl q8
                        simp [l8, hin, fits, CV.cells, hs1]
                        refine ⟨_, q8.lay _, ?_⟩
                        rw [hr, ← hn1]
                      · by_cases a4 : kk = 4
                        · subst a4
                          have hi6 : i = 6 := by simp [wantOf] at hgo hiw; omega
                          subst hi6
                          have hr := read_v he1.symm fun j h1 h2 => hok j h1 h2
                          rw [show Ins l _ 0 = (smallR 0 (at_ l 2)).1 from in4 0 (by omega)] at q8
                          have hin1 := in4 1 (by omega)
                          have hin2 := in4 2 (by omega)
                          have hin3 := in4 3 (by omega)
                          have hs1 := hlayN (⟨n1, 4, (smallR 0 (at_ l 2)).1, 0, 0, 0, 0⟩ : EvV) 3 (smallR 0 (at_ l 3)).1 (⟨n1, 4, (smallR 0 (at_ l 2)).1, (smallR 0 (at_ l 3)).1, 0, 0, 0⟩ : EvV) (by omega) rfl q8
                          have q9 := q8.lay (⟨n1, 4, (smallR 0 (at_ l 2)).1, (smallR 0 (at_ l 3)).1, 0, 0, 0⟩ : EvV)
                          have hs2 := hlayN (⟨n1, 4, (smallR 0 (at_ l 2)).1, (smallR 0 (at_ l 3)).1, 0, 0, 0⟩ : EvV) 4 (smallR 0 (at_ l 4)).1 (⟨n1, 4, (smallR 0 (at_ l 2)).1, (smallR 0 (at_ l 3)).1, (smallR 0 (at_ l 4)).1, 0, 0⟩ : EvV) (by omega) rfl q9
                          have q10 := q9.lay (⟨n1, 4, (smallR 0 (at_ l 2)).1, (smallR 0 (at_ l 3)).1, (smallR 0 (at_ l 4)).1, 0, 0⟩ : EvV)
                          have hs3 := hlayN (⟨n1, 4, (smallR 0 (at_ l 2)).1, (smallR 0 (at_ l 3)).1, (smallR 0 (at_ l 4)).1, 0, 0⟩ : EvV) 5 (smallR 0 (at_ l 5)).1 (⟨n1, 4, (smallR 0 (at_ l 2)).1, (smallR 0 (at_ l 3)).1, (smallR 0 (at_ l 4)).1, (smallR 0 (at_ l 5)).1, 0⟩ : EvV) (by omega) rfl q10
                          have q11 := q10.lay (⟨n1, 4, (smallR 0 (at_ l 2)).1, (smallR 0 (at_ l 3)).1, (smallR 0 (at_ l 4)).1, (smallR 0 (at_ l 5)).1, 0⟩ : EvV)
                          have kX : ∀ (H' : Heap) cs, Keep (fun b => b = X) H' (H'.set X (.arr cs .tight)) := fun H' cs => Keep.set _ _ rfl
                          have g9 := (kX H8 (evL (⟨n1, 4, (smallR 0 (at_ l 2)).1, (smallR 0 (at_ l 3)).1, 0, 0, 0⟩ : EvV))).at g8 (by omega)
                          have l9 := ld g9
                          generalize hH9 : H8.set X (.arr (evL (⟨n1, 4, (smallR 0 (at_ l 2)).1, (smallR 0 (at_ l 3)).1, 0, 0, 0⟩ : EvV)) .tight) = H9 at *
                          have g10 := (kX H9 (evL (⟨n1, 4, (smallR 0 (at_ l 2)).1, (smallR 0 (at_ l 3)).1, (smallR 0 (at_ l 4)).1, 0, 0⟩ : EvV))).at g9 (by omega)
                          have l10 := ld g10
                          generalize hH10 : H9.set X (.arr (evL (⟨n1, 4, (smallR 0 (at_ l 2)).1, (smallR 0 (at_ l 3)).1, (smallR 0 (at_ l 4)).1, 0, 0⟩ : EvV)) .tight) = H10 at *
                          generalize hH11 : H10.set X (.arr (evL (⟨n1, 4, (smallR 0 (at_ l 2)).1, (smallR 0 (at_ l 3)).1, (smallR 0 (at_ l 4)).1, (smallR 0 (at_ l 5)).1, 0⟩ : EvV)) .tight) = H11 at *
                          have hil : 6 < l.length := by rw [hlw]; simp [wantOf]
                          have hati : at_ l 6 = l[6] := by simp [at_, List.getElem?_eq_getElem hil]
                          obtain ⟨b2, o2, row2, z1, z2, z3, z4⟩ := q11.w.row (k := .i64) (by decide) hil
                          have z4 : row2 = [.str (at_ l 6)] := by rw [hati]; exact z4
                          have z1 : idxAddrV 1 wv (.int .i64 6) = some (.ptr b2 o2) := z1
                          simp only [Cod.str] at z3
                          have z5 := z3 0 (by decide)
                          rw [z4] at z5
                          simp at z5
                          simp [l8, l9, l10, hin1, hin2, hin3, fits, CV.cells, hs1, hs2, hs3, z1, z5]
                          refine (refNumber_spec lp (hwl 6 hil)).mono ?_
                          rintro r h12 ⟨rfl, k12⟩
                          have q12 := q11.on k12
                          have hs4 := hlayN (⟨n1, 4, (smallR 0 (at_ l 2)).1, (smallR 0 (at_ l 3)).1, (smallR 0 (at_ l 4)).1, (smallR 0 (at_ l 5)).1, 0⟩ : EvV) 6 (numP (at_ l 6)).1 (⟨n1, 4, (smallR 0 (at_ l 2)).1, (smallR 0 (at_ l 3)).1, (smallR 0 (at_ l 4)).1, (smallR 0 (at_ l 5)).1, (numP (at_ l 6)).1⟩ : EvV) (by omega) rfl q12
                          have q13 := q12.lay (⟨n1, 4, (smallR 0 (at_ l 2)).1, (smallR 0 (at_ l 3)).1, (smallR 0 (at_ l 4)).1, (smallR 0 (at_ l 5)).1, (numP (at_ l 6)).1⟩ : EvV)
                          by_cases hev : (numP (at_ l 6)).2 = 0
                          · simp [fits, CV.cells, hs4, hev]
                            refine ⟨_, q13, ?_⟩
                            rw [hr, hev, ← hn1]
                          · obtain ⟨v1, v2, v3⟩ := q13.ret ev0
                            rw [hr, evFin_err hev]
                            simp [fits, CV.cells, hs4, hev]
                            simp [zb2, lE, v1, v2]
                            exact v3
                        · simp [a2, a5, a4]
                          refine ⟨_, q8, ?_⟩
                          by_cases a8 : kk = 8
                          · subst a8
                            have hi2 : i = 2 := by simp [wantOf] at hgo hiw; omega
                            rw [in0 0 (by omega), read_8 he1.symm, ← hn1]
                          · have hi3 : i = 3 := by simp [wantOf, a2, a4, a5, a8] at hgo hiw; omega
                            rw [in4 0 (by omega), read_1 kk1 hk8.2 a2 a4 a5 a8 he1.symm (hok 2 (by omega) (by omega)), ← hn1]
                  rintro e' h9 ⟨⟨r9', rfl, hg6⟩, y, q9, hrd⟩
                  simp at hg6
                  have l9 := ldw q9.x (evL_len y)
                  have hfin : evFin (evRead kk l) = if evCheckP y = 0 then (y, 0) else (ev0, evCheckP y) := by rw [hrd]; unfold evFin; rw [if_pos rfl]
                  rw [hfin]
                  simp [l9, hg6]
                  refine (refCheck_spec lp).mono ?_
                  rintro r h10 ⟨rfl, k10⟩
                  have q10 := q9.on k10
                  have l10 := ldw q10.x (evL_len y)
                  by_cases hc : evCheckP y = 0
                  · obtain ⟨v1, v2, v3⟩ := q10.ret y
                    simp [hc, hg6, l10]
                    simp [ca, lE, v1, v2]
                    exact v3
                  · obtain ⟨v1, v2, v3⟩ := q10.ret ev0
                    simp [hc]
                    simp [zb2, ca, lE, v1, v2]
                    exact v3
              · rw [hne e1 he1.symm he]
                obtain ⟨z1, z2, z3⟩ := q6.ret ev0
                simp [fits, CV.cells, sB, he]
                simp [zb2, lE, z1, z2]
                exact z3
            · have hlw' : ¬ (l.length : Int) = wantOf kk := by omega
              obtain ⟨z1, z2, z3⟩ := q4.ret ev0
              rw [if_neg hlw]
              simp [nl4, hlw', zb2, ca, lE, z1, z2]
              exact z3
        · have hlt : i < namesL.length := by show i < 9; omega
          have hlt' : (i : Int) < 9 := by omega
          obtain ⟨b0, o0, row, x1, x2, x3, x4⟩ := sn4.row (k := .i64) (by decide) hlt
          rw [name_at i1 hlt] at x4
          have x4 : row = [.str (evWord i)] := x4
          simp only [Cod.str] at x1 x3
          have x5 := x3 0 (by decide)
          rw [x4] at x5
          simp at x5
          obtain ⟨b1, o1, row1, y1, y2, y3, y4⟩ := q4.w.row (k := .i64) (by decide) hl1
          have y4 : row1 = [.str (at_ l 1)] := by rw [hat1]; exact y4
          have y1 : idxAddrV 1 wv (.int .i64 1) = some (.ptr b1 o1) := y1
          simp only [Cod.str] at y3
          have y5 := y3 0 (by decide)
          rw [y4] at y5
          simp at y5
          have hwi : IntKind.i64.wrap ((i : Int) + 1) = ((i + 1 : Nat) : Int) := by rw [w64 (by omega) (by omega)]; omega
          by_cases hq : evWord i = at_ l 1
          · have hki : evKind (at_ l 1) = i := by rw [← hq]; exact evKind_word (by omega) (by omega)
            have hup : kUpTo (evKind (at_ l 1)) (i + 1) = i := by unfold kUpTo; rw [if_pos (by omega), hki]
            have sB := sto1 q4.x (o := 1) (v := .int .i64 i) (by rw [evL_len]; omega) rfl
            have q5 := q4.lay (⟨0, i, 0, 0, 0, 0, 0⟩ : EvV)
            have hset : (evL (⟨0, kUpTo (evKind (at_ l 1)) i, 0, 0, 0, 0, 0⟩ : EvV)).set 1 (.int .i64 i) = evL (⟨0, i, 0, 0, 0, 0, 0⟩ : EvV) := rfl
            rw [hset] at sB
            have ke : Keep (fun b => b = X) h4 (h4.set X (.arr (evL (⟨0, i, 0, 0, 0, 0, 0⟩ : EvV)) .tight)) := Keep.set _ _ rfl
            simp [n9, hlt', x1, x5, y1, y5, hq, fits, CV.cells, sB, hwi]
            refine ⟨10 - (i + 1), by omega, i + 1, by omega, by omega, rfl, rfl, ?_, sn4.keep ke fun k hk => hk⟩
            rw [hup]
            exact q5
          · have hup : kUpTo (evKind (at_ l 1)) (i + 1) = kUpTo (evKind (at_ l 1)) i := by
              unfold kUpTo
              by_cases hlt2 : evKind (at_ l 1) < i
              · rw [if_pos (by omega), if_pos hlt2]
              · rw [if_neg hlt2]
                split
                · have hki : evKind (at_ l 1) = i := by omega
                  exfalso
                  apply hq
                  rw [← hki]
                  exact evWord_kind (by omega)
                · rfl
            simp [n9, hlt', x1, x5, y1, y5, hq, hwi]
            refine ⟨10 - (i + 1), by omega, i + 1, by omega, by omega, rfl, rfl, ?_, sn4⟩
            rw [hup]
            exact q4
      · have : kUpTo (evKind (at_ l 1)) 1 = 0 := by unfold kUpTo; split <;> omega
        rw [this]
        exact q1

end Go.Cl

namespace Go.Cl
open Go
set_option linter.unusedSimpArgs false
set_option linter.unusedVariables false
set_option maxHeartbeats 2000000

variable {p : PP}

def evTy : Ty := .cons (.int .i64) (.cons (.int .i64) (.cons (.int .i64) (.cons (.int .i64) (.cons (.int .i64) (.cons (.int .i64) (.cons (.int .i64) .nil))))))

theorem tellsEv : Tells evTy evtC EvV.In := by
  refine ⟨rfl, fun h c s => ?_⟩
  obtain ⟨c1, c', rfl, s1, s⟩ := sh_cons s
  obtain ⟨c2, c', rfl, s2, s⟩ := sh_cons s
  obtain ⟨c3, c', rfl, s3, s⟩ := sh_cons s
  obtain ⟨c4, c', rfl, s4, s⟩ := sh_cons s
  obtain ⟨c5, c', rfl, s5, s⟩ := sh_cons s
  obtain ⟨c6, c', rfl, s6, s⟩ := sh_cons s
  obtain ⟨c7, c', rfl, s7, s⟩ := sh_cons s
  have e := sh_nil s
  subst e
  obtain ⟨a1, rfl, h1⟩ := sh_int s1
  obtain ⟨a2, rfl, h2⟩ := sh_int s2
  obtain ⟨a3, rfl, h3⟩ := sh_int s3
  obtain ⟨a4, rfl, h4⟩ := sh_int s4
  obtain ⟨a5, rfl, h5⟩ := sh_int s5
  obtain ⟨a6, rfl, h6⟩ := sh_int s6
  obtain ⟨a7, rfl, h7⟩ := sh_int s7
  exact ⟨⟨a1, a2, a3, a4, a5, a6, a7⟩, rfl, h1, h2, h3, h4, h5, h6, h7⟩

theorem eqv_ev {x y : EvV} : eqv (.st [.i, .i, .i, .i, .i, .i, .i]) (.agg (evL x)) (.agg (evL y)) = some (decide (x = y)) := by
  obtain ⟨a1, a2, a3, a4, a5, a6, a7⟩ := x
  obtain ⟨b1, b2, b3, b4, b5, b6, b7⟩ := y
  simp only [eqv, evL, List.length_cons, List.length_nil, and_self, if_true, eqCells, eqKind, EvV.mk.injEq]
  have e : ∀ a b : Int, (a == b) = decide (a = b) := fun a b => by by_cases h : a = b <;> simp [h]
  simp only [e]
  by_cases h1 : a1 = b1
  · by_cases h2 : a2 = b2
    · by_cases h3 : a3 = b3
      · by_cases h4 : a4 = b4
        · by_cases h5 : a5 = b5
          · by_cases h6 : a6 = b6
            · by_cases h7 : a7 = b7 <;> simp [h1, h2, h3, h4, h5, h6, h7]
            · simp [h1, h2, h3, h4, h5, h6]
          · simp [h1, h2, h3, h4, h5]
        · simp [h1, h2, h3, h4]
      · simp [h1, h2, h3]
    · simp [h1, h2]
  · simp [h1]

theorem EvV.In.fine {x : EvV} (h : x.In) : x.fine := ⟨h.task, h.pc.2, h.case.2, h.v⟩

theorem numR_in (e : Int) (a : Wd) : inI (numR e a).1 := by
  unfold numR
  split
  · exact numP_in a
  · exact ⟨by simp, by simp⟩
theorem smallR_in (e : Int) (a : Wd) : inI (smallR e a).1 := by
  unfold smallR
  split
  · exact numR_in e a
  · exact numR_in e a
theorem opt_in (b : Bool) (e : Int) (l : List Wd) : inI (opt b e l).1 := by
  unfold opt
  split
  · exact smallR_in _ _
  · exact ⟨by simp, by simp⟩

theorem in0 : inI 0 := ⟨by decide, by decide⟩
theorem ev0_in : ev0.In := ⟨in0, in0, in0, in0, in0, in0, in0⟩

theorem evParse_in (s : Wd) : (evParse s).1.In := by
  unfold evParse
  split
  · exact ev0_in
  · split
    · exact ev0_in
    · rename_i l heq hk
      unfold evFin
      split
      · split
        · have h9 := evKind_le (at_ l 1)
          refine ⟨numR_in _ _, ⟨?_, ?_⟩, opt_in _ _ _, opt_in _ _ _, opt_in _ _ _, opt_in _ _ _, ?_⟩
          · show -9223372036854775808 ≤ evKind (at_ l 1); omega
          · show evKind (at_ l 1) ≤ 9223372036854775807; omega
          · show inI (if hasRest _ then numR _ _ else (0, _)).1
            split
            · exact numR_in _ _
            · exact ⟨by simp, by simp⟩
        · exact ev0_in
      · exact ev0_in

theorem eventAny_law (lp : LP p) (hp : p.pr = addKnown [107] lib) {x : EvV} {h : Heap} (hx : x.In) : WF p 106 [.agg (evL x)] h fun r _ => r = .bool true := by
  refine WF_of (by rw [lp.pg]; exact S.pg106) (lp.no' hp ⟨rfl, rfl⟩) ?_
  show W p S.b106 _ _ (retQ [.t 2] _)
  unfold S.b106
  have ca : ∀ l, (CV.agg l).cells = l := fun _ => rfl
  have c2 := evL_2 x
  have c3 := evL_3 x
  have c5 := evL_5 x
  have lC : (evL x).length = 7 := rfl
  have gC : ∀ (h : Heap), loadAt (h ++ [.arr (evL x) .tight]) h.length 0 (some 7) = some (.agg (evL x)) := fun h => load_new rfl
  simp [ca]
  refine WF_yes hp rfl ?_
  simp [gC]
  refine (evTo_spec (K := 108) (by rw [lp.pg]; exact S.pg108) (lp.no ⟨rfl, rfl⟩)).mono ?_
  rintro r h1 ⟨rfl, k1⟩
  have g1 := k1.at (b := h.length) (o := .arr (evL x) .tight) (by simp) id
  have st := store_new (h := h1) (row := evL x) (z := [.int .i64 0, .int .i64 0, .int .i64 0, .int .i64 0, .int .i64 0, .int .i64 0, .int .i64 0]) rfl rfl
  have k12 : Keep NoneOf h1 (h1 ++ [.arr (evL x) .tight]) := Keep.app _ _ _
  have g2 := k12.at g1 id
  have g3 : (h1 ++ [Obj.arr (evL x) .tight])[h1.length]? = some (.arr (evL x) .tight) := by simp
  simp [ca, lC, st]
  generalize h1 ++ [Obj.arr (evL x) .tight] = H at *
  have w2 := ldw g2 lC
  have w3 := ldw g3 lC
  have e2 := ld g2
  simp [w2, w3]
  refine WO_re_n ?_
  simp
  refine (evCheck_spec lp).mono ?_
  rintro r h4 ⟨rfl, k4⟩
  have g24 := k4.at g2 id
  have g34 := k4.at g3 id
  have w24 := ldw g24 lC
  have w34 := ldw g34 lC
  refine ⟨fun c => by simp [recheckB, wanted, Env.get, cls, evOp, Opd.ev, withH, CV.eqb, w24, CV.eqb_refl, CV.eqbL_refl], ?_⟩
  refine (refCheck_spec lp).mono ?_
  rintro r h5 ⟨rfl, k5⟩
  have g25 := k5.at g24 id
  have g35 := k5.at g34 id
  have w25 := ldw g25 lC
  have w35 := ldw g35 lC
  have e25 := ld g25
  simp [w25]
  refine (refCheck_spec lp).mono ?_
  rintro r h6 ⟨rfl, k6⟩
  have g26 := k6.at g25 id
  have g36 := k6.at g35 id
  have w26 := ldw g26 lC
  have w36 := ldw g36 lC
  have e26 := ld g26
  by_cases hc : evCheckP x = 0
  · by_cases b1 : x.task < -2147483648
    · simp [hc, e26, c2, b1]
    · by_cases b2 : 2147483647 < x.task
      · simp [hc, e26, c2, b1, b2]
      · by_cases b3 : 2147483647 < x.pc
        · simp [hc, e26, c2, c3, b1, b2, b3]
        · by_cases b4 : 2147483647 < x.case
          · simp [hc, e26, c2, c3, c5, b1, b2, b3, b4]
          · have hsm : x.small := ⟨⟨by omega, by omega⟩, by omega, by omega, hx.v⟩
            have ok := evOk hc
            have hpt := evParse_text hc hsm
            have htl := evText_len x
            simp [hc, e26, c2, c3, c5, b1, b2, b3, b4, w36]
            refine (evText_spec lp hx).mono ?_
            rintro r h7 ⟨rfl, k7⟩
            refine (evParse_spec lp (by omega)).mono ?_
            rintro r h8 ⟨rfl, k8⟩
            rw [hpt]
            have st8 := store_new (h := h8) (row := evL x) (z := [.int .i64 0, .int .i64 0, .int .i64 0, .int .i64 0, .int .i64 0, .int .i64 0, .int .i64 0]) rfl rfl
            have lE : (evL x).length = 7 := rfl
            have K8 := (k7.trans k8).trans (Keep.app NoneOf h8 [.arr (evL x) .tight])
            have g28 := K8.at g26 id
            have g38 := K8.at g36 id
            have g8 : (h8 ++ [Obj.arr (evL x) .tight])[h8.length]? = some (.arr (evL x) .tight) := by simp
            simp [ca, lE, st8]
            generalize h8 ++ [Obj.arr (evL x) .tight] = H8 at *
            have w28 := ldw g28 lC
            simp [w28]
            refine (refText_spec lp hx ok.k0 ok.k8).mono ?_
            rintro r h9 ⟨rfl, k9⟩
            have w39 := ldw (k9.at g38 id) lC
            have w89 := ldw (k9.at g8 id) lC
            have f2 : fillC [.int .i64 0, .int .i64 0, .int .i64 0, .int .i64 0, .int .i64 0, .int .i64 0, .int .i64 0, .int .i64 0, .int .i64 0, .int .i64 0, .int .i64 0, .int .i64 0, .int .i64 0, .int .i64 0] [(0, 7, .agg (evL x)), (7, 7, .agg (evL x))] = some (evL x ++ evL x) := rfl
            simp [w39, w89, eqv_ev, f2]
            have sl : Sl evtC (h9 ++ [.arr (evL x ++ evL x) .tight]) (From h9) (.sl h9.length 0 2 2) [x, x] := Sl.fresh (by have := Rows.of_flat (e := evtC) (h := h9 ++ [.arr (evL x ++ evL x) .tight]) (P := From h9) evL [x, x] fun y _ => rfl; simpa using this) rfl
            refine (evLines_spec lp sl (by simp) (by simp; exact hx)).mono ?_
            rintro r h10 ⟨rfl, k10⟩
            simp [OV_if, linesOf]
            omega
  · simp [hc]

theorem eventReads_law (lp : LP p) (hp : p.pr = addKnown [107] lib) {s : Wd} {h : Heap} : WF p 115 [.str s] h fun r _ => r = .bool true := by
  refine WF_of (by rw [lp.pg]; exact S.pg115) (lp.no' hp ⟨rfl, rfl⟩) ?_
  show W p S.b115 _ _ (retQ [.t 2] _)
  unfold S.b115
  have ca : ∀ l, (CV.agg l).cells = l := fun _ => rfl
  simp
  refine WF_yes hp rfl ?_
  by_cases hl : (300 : Int) < s.length
  · simp [hl]
  simp [hl]
  have hI := evParse_in s
  have hT := fun (x : EvV) (he : evParse s = (x, 0)) => evText_parse he
  obtain ⟨q, hq⟩ : ∃ q, evParse s = q := ⟨_, rfl⟩
  obtain ⟨x, e⟩ := q
  rw [hq] at hI
  have hI : x.In := hI
  have lE : (evL x).length = 7 := rfl
  have lC : (evL x).length = 7 := rfl
  refine (evParse_spec lp (by omega)).mono ?_
  rintro r h1 ⟨rfl, k1⟩
  rw [hq]
  have st1 := store_new (h := h1) (row := evL x) (z := [.int .i64 0, .int .i64 0, .int .i64 0, .int .i64 0, .int .i64 0, .int .i64 0, .int .i64 0]) rfl rfl
  simp [ca, lE, st1]
  have g1 : (h1 ++ [Obj.arr (evL x) .tight])[h1.length]? = some (.arr (evL x) .tight) := by simp
  generalize hH1 : h1 ++ [Obj.arr (evL x) .tight] = H1 at *
  refine (refParse_spec lp (by omega)).mono ?_
  rintro r h2 ⟨rfl, k2⟩
  rw [hq]
  have st2 := store_new (h := h2) (row := evL x) (z := [.int .i64 0, .int .i64 0, .int .i64 0, .int .i64 0, .int .i64 0, .int .i64 0, .int .i64 0]) rfl rfl
  have g2 : (h2 ++ [Obj.arr (evL x) .tight])[h2.length]? = some (.arr (evL x) .tight) := by simp
  have g12 := (Keep.app NoneOf h2 [.arr (evL x) .tight]).at (k2.at g1 id) id
  simp [ca, lE, st2]
  generalize hH2 : h2 ++ [Obj.arr (evL x) .tight] = H2 at *
  have w1 := ldw g12 lC
  have w2 := ldw g2 lC
  simp [w1, w2]
  refine WO_re (by simp) ?_
  simp
  refine (evTo_spec (K := 117) (by rw [lp.pg]; exact (show S.pg 117 = some S.f108 from rfl)) (lp.no ⟨rfl, rfl⟩)).mono ?_
  rintro r h3 ⟨rfl, k3⟩
  have g13 := k3.at g12 id
  have w13 := ldw g13 lC
  have w23 := ldw (k3.at g2 id) lC
  refine ⟨fun c => by simp [recheckB, wanted, Env.get, cls, evOp, Opd.ev, withH, CV.eqb, w23, CV.eqb_refl, CV.eqbL_refl], ?_⟩
  by_cases he : e = 0
  · subst he
    obtain ⟨t1, t2⟩ := hT x hq
    simp [eqv_ev, w13]
    refine (evText_spec lp hI).mono ?_
    rintro r h4 ⟨rfl, k4⟩
    have w14 := ldw (k4.at g13 id) lC
    rw [t1]
    simp [w14]
    refine (evCheck_spec lp).mono ?_
    rintro r h5 ⟨rfl, k5⟩
    simp [t2]
  · simp [eqv_ev, he]

theorem eventApart_law (lp : LP p) (hp : p.pr = addKnown [107] lib) {x y : EvV} {h : Heap} (hx : x.In) (hy : y.In) : WF p 119 [.agg (evL x), .agg (evL y)] h fun r _ => r = .bool true := by
  refine WF_of (by rw [lp.pg]; exact S.pg119) (lp.no' hp ⟨rfl, rfl⟩) ?_
  show W p S.b119 _ _ (retQ [.t 4] _)
  unfold S.b119
  have ca : ∀ l, (CV.agg l).cells = l := fun _ => rfl
  have lX : (evL x).length = 7 := rfl
  have lY : (evL y).length = 7 := rfl
  simp [ca]
  refine WF_yes hp rfl ?_
  have gx : (h ++ [Obj.arr (evL x) .tight, .arr (evL y) .tight])[h.length]? = some (.arr (evL x) .tight) := by simp
  have gy : (h ++ [Obj.arr (evL x) .tight, .arr (evL y) .tight])[h.length + 1]? = some (.arr (evL y) .tight) := by simp
  generalize h ++ [Obj.arr (evL x) .tight, .arr (evL y) .tight] = H at *
  have wx := ldw gx lX
  simp [wx]
  refine (refCheck_spec lp).mono ?_
  rintro r h1 ⟨rfl, k1⟩
  have gx1 := k1.at gx id
  have gy1 := k1.at gy id
  have wx1 := ldw gx1 lX
  have wy1 := ldw gy1 lY
  by_cases hcx : evCheckP x = 0
  · simp [hcx, wy1]
    refine (refCheck_spec lp).mono ?_
    rintro r h2 ⟨rfl, k2⟩
    have gx2 := k2.at gx1 id
    have gy2 := k2.at gy1 id
    have wx2 := ldw gx2 lX
    have wy2 := ldw gy2 lY
    by_cases hcy : evCheckP y = 0
    · have inj := evText_inj hcx hcy hx.fine hy.fine
      simp [hcy, wx2, wy2, eqv_ev]
      refine WO_re_n ?_
      simp
      refine (evTo_spec (K := 108) (by rw [lp.pg]; exact S.pg108) (lp.no ⟨rfl, rfl⟩)).mono ?_
      rintro r h3 ⟨rfl, k3⟩
      have gx3 := k3.at gx2 id
      have gy3 := k3.at gy2 id
      have wx3 := ldw gx3 lX
      have wy3 := ldw gy3 lY
      refine ⟨fun c => by simp [recheckB, wanted, Env.get, cls, evOp, Opd.ev, withH, CV.eqb, wx3, wy3, CV.eqb_refl, CV.eqbL_refl], ?_⟩
      refine WO_re_n ?_
      simp
      refine (evText_spec lp hx).mono ?_
      rintro r h4 ⟨rfl, k4⟩
      have gx4 := k4.at gx3 id
      have gy4 := k4.at gy3 id
      have wx4 := ldw gx4 lX
      have wy4 := ldw gy4 lY
      refine ⟨fun c => by simp [recheckB, wanted, Env.get, cls, evOp, Opd.ev, withH, CV.eqb, wx4, wy4, CV.eqb_refl, CV.eqbL_refl], ?_⟩
      refine WO_re_n ?_
      simp
      refine (evTo_spec (K := 108) (by rw [lp.pg]; exact S.pg108) (lp.no ⟨rfl, rfl⟩)).mono ?_
      rintro r h5 ⟨rfl, k5⟩
      have gx5 := k5.at gx4 id
      have gy5 := k5.at gy4 id
      have wx5 := ldw gx5 lX
      have wy5 := ldw gy5 lY
      refine ⟨fun c => by simp [recheckB, wanted, Env.get, cls, evOp, Opd.ev, withH, CV.eqb, wx5, wy5, CV.eqb_refl, CV.eqbL_refl], ?_⟩
      refine WO_re_n ?_
      simp
      refine (evText_spec lp hy).mono ?_
      rintro r h6 ⟨rfl, k6⟩
      have gx6 := k6.at gx5 id
      have gy6 := k6.at gy5 id
      have wx6 := ldw gx6 lX
      have wy6 := ldw gy6 lY
      refine ⟨fun c => by simp [recheckB, wanted, Env.get, cls, evOp, Opd.ev, withH, CV.eqb, wx6, wy6, CV.eqb_refl, CV.eqbL_refl], ?_⟩
      by_cases hxy : x = y
      · simp [hxy]
      · have : ¬ evText x = evText y := fun h => hxy (inj.1 h)
        simp [hxy, this]
    · simp [hcy]
  · simp [hcx]

end Go.Cl

namespace Go.Cl
open Go
set_option linter.unusedSimpArgs false
set_option linter.unusedVariables false
set_option maxHeartbeats 2000000

variable {p : PP}

def erOf (k : Int) : Int := if k = 2 then 10 else 0

theorem fields_ok {k : Int} (h0 : 1 ≤ k) (h8 : k ≤ 8) : evCheckP ⟨5, k, 0, 0, erOf k, 0, 0⟩ = 0 ∧ evCheckP ⟨5, k, 3, 0, erOf k, 0, 0⟩ = (if k = 8 then 1 else 0) ∧ evCheckP ⟨5, k, 0, 3, erOf k, 0, 0⟩ = (if k = 4 ∨ k = 5 then 0 else 1) ∧
    evCheckP ⟨5, k, 0, 0, 9, 0, 0⟩ = (if k = 2 ∨ k = 4 then 0 else 1) ∧ evCheckP ⟨5, k, 0, 0, erOf k, 1, 0⟩ = (if k = 4 then 0 else 1) ∧ evCheckP ⟨5, k, 0, 0, erOf k, 0, 1⟩ = (if k = 4 then 0 else 1) := by
  rcases kinds8 h0 h8 with rfl | rfl | rfl | rfl | rfl | rfl | rfl | rfl <;> decide

def FdM (X : Nat) (e' : Env) (h' : Heap) : Prop := ∃ (x1 : EvV) (m' : Bool), e' = [(6, .ptr X 0), (7, .bool m')] ∧ h'[X]? = some (.arr (evL x1) .tight) ∧ evCheckP x1 = (if m' then 0 else 1)

theorem eventFields_law (lp : LP p) (hp : p.pr = addKnown [107] lib) {a b : Int} {h : Heap} (a0 : 0 ≤ a) (b0 : 0 ≤ b) : WF p 118 [.int .u8 a, .int .u8 b] h fun r _ => r = .bool true := by
  refine WF_of (by rw [lp.pg]; exact S.pg118) (lp.no' hp ⟨rfl, rfl⟩) ?_
  show W p S.b118 _ _ (retQ [.t 4] _)
  unfold S.b118
  have ca : ∀ l, (CV.agg l).cells = l := fun _ => rfl
  have lE : ∀ y : EvV, (evL y).length = 7 := fun _ => rfl
  have q0 := Int.tmod_nonneg 8 a0
  have q8 := Int.tmod_lt_of_pos a (show (0 : Int) < 8 by omega)
  have r0 := Int.tmod_nonneg 5 b0
  have r5 := Int.tmod_lt_of_pos b (show (0 : Int) < 5 by omega)
  simp
  refine WF_yes hp rfl ?_
  obtain ⟨q, hq⟩ : ∃ q, a.tmod 8 = q := ⟨_, rfl⟩
  obtain ⟨r, hr⟩ : ∃ r, b.tmod 5 = r := ⟨_, rfl⟩
  rw [hq] at q0 q8
  rw [hr] at r0 r5
  obtain ⟨k, hk⟩ : ∃ k, k = 1 + q := ⟨_, rfl⟩
  have w1 : IntKind.i64.wrap q = q := w64 (by omega) (by omega)
  have w2 : IntKind.i64.wrap (1 + q) = k := by rw [w64 (by omega) (by omega)]; exact hk.symm
  have f1 : fillC [.int .i64 0, .int .i64 0, .int .i64 0, .int .i64 0, .int .i64 0, .int .i64 0, .int .i64 0] [(0, 1, .int .i64 5), (1, 1, .int .i64 k)] = some (evL ⟨5, k, 0, 0, 0, 0, 0⟩) := rfl
  have st := store_new (h := h) (row := evL ⟨5, k, 0, 0, 0, 0, 0⟩) (z := [.int .i64 0, .int .i64 0, .int .i64 0, .int .i64 0, .int .i64 0, .int .i64 0, .int .i64 0]) rfl rfl
  simp [hq, w1, w2, f1, ca, lE, st]
  have g0 : (h ++ [Obj.arr (evL ⟨5, k, 0, 0, 0, 0, 0⟩) .tight])[h.length]? = some (.arr (evL ⟨5, k, 0, 0, 0, 0, 0⟩) .tight) := by simp
  generalize h ++ [Obj.arr (evL ⟨5, k, 0, 0, 0, 0, 0⟩) .tight] = H at *
  obtain ⟨F0, F1, F2, F3, F4, F5⟩ := fields_ok (k := k) (by omega) (by omega)
  have k1 : 1 ≤ k := by omega
  have k8 : k ≤ 8 := by omega
  clear hk w1 w2 f1 st q0 q8
  generalize h.length = X at *
  refine W_to (fun e' h' => (∃ r', e' = (1, .int .u8 b) :: (5, .int .i64 k) :: (6, .ptr X 0) :: r') ∧ h'[X]? = some (.arr (evL ⟨5, k, 0, 0, erOf k, 0, 0⟩) .tight)) ?_ ?_
  · by_cases c2 : k = 2
    · subst c2
      have sB := sto1 g0 (o := 4) (v := .int .i64 10) (by decide) rfl
      have hset : (evL (⟨5, 2, 0, 0, 0, 0, 0⟩ : EvV)).set 4 (.int .i64 10) = evL ⟨5, 2, 0, 0, erOf 2, 0, 0⟩ := rfl
      rw [hset] at sB
      simp [fits, CV.cells, sB]
      exact get_set_self (lt_of_get g0)
    · simp [c2]
      have : erOf k = 0 := if_neg c2
      rw [this]
      exact g0
  rintro e' h1 ⟨⟨r', rfl⟩, g1⟩
  have w1 := ldw g1 (lE _)
  simp [w1]
  refine (evCheck_spec lp).mono ?_
  rintro rr h2 ⟨rfl, k2⟩
  have g2 := k2.at g1 id
  have hsto : ∀ (o : Nat) (z : Int) (y' : EvV), o < 7 → (evL ⟨5, k, 0, 0, erOf k, 0, 0⟩).set o (.int .i64 z) = evL y' → storeAt h2 X o [.int .i64 z] = some (h2.set X (.arr (evL y') .tight)) := fun o z y' ho hs => by
    have := sto1 g2 (o := o) (v := .int .i64 z) (by rw [evL_len]; exact ho) rfl
    rw [hs] at this
    exact this
  have gs : ∀ y : EvV, (h2.set X (.arr (evL y) .tight))[X]? = some (.arr (evL y) .tight) := fun y => get_set_self (lt_of_get g2)
  simp [F0, hr]
  refine W_toB (FdM X) ?_ ?_
  · have hr5 : r = 0 ∨ r = 1 ∨ r = 2 ∨ r = 3 ∨ r = 4 := by omega
    clear hr
    rcases hr5 with rfl | rfl | rfl | rfl | rfl
    · have s1 := hsto 2 3 ⟨5, k, 3, 0, erOf k, 0, 0⟩ (by omega) rfl
      simp [fits, CV.cells, s1]
      refine ⟨_, _, rfl, gs _, ?_⟩
      rw [F1]
      by_cases c : k = 8 <;> simp [c]
    · have s1 := hsto 3 3 ⟨5, k, 0, 3, erOf k, 0, 0⟩ (by omega) rfl
      by_cases c : k = 4
      · simp [fits, CV.cells, s1, c]
        refine ⟨_, _, rfl, by rw [← c]; exact gs _, ?_⟩
        rw [F2]; simp [c]
      · simp [fits, CV.cells, s1, c]
        refine ⟨_, _, rfl, gs _, ?_⟩
        rw [F2]
        by_cases c5 : k = 5 <;> simp [c, c5]
    · have s1 := hsto 4 9 ⟨5, k, 0, 0, 9, 0, 0⟩ (by omega) rfl
      by_cases c : k = 2
      · simp [fits, CV.cells, s1, c]
        refine ⟨_, _, rfl, by rw [← c]; exact gs _, ?_⟩
        rw [F3]; simp [c]
      · simp [fits, CV.cells, s1, c]
        refine ⟨_, _, rfl, gs _, ?_⟩
        rw [F3]
        by_cases c5 : k = 4 <;> simp [c, c5]
    · have s1 := hsto 5 1 ⟨5, k, 0, 0, erOf k, 1, 0⟩ (by omega) rfl
      simp [fits, CV.cells, s1]
      refine ⟨_, _, rfl, gs _, ?_⟩
      rw [F4]
      by_cases c : k = 4 <;> simp [c]
    · have s1 := hsto 6 1 ⟨5, k, 0, 0, erOf k, 0, 1⟩ (by omega) rfl
      simp [fits, CV.cells, s1]
      refine ⟨_, _, rfl, gs _, ?_⟩
      rw [F5]
      by_cases c : k = 4 <;> simp [c]
  rintro e' h3 ⟨x1, m', rfl, g3, hx1⟩
  have w3 := ldw g3 (lE _)
  simp [w3]
  refine (evCheck_spec lp).mono ?_
  rintro rr h4 ⟨rfl, k4⟩
  rw [hx1]
  have w4 := ldw (k4.at g3 id) (lE _)
  cases m' with
  | true => simp
  | false =>
    simp [w4]
    refine (evCheck_spec lp).mono ?_
    rintro rr h5 ⟨rfl, k5⟩
    rw [hx1]
    simp

/-! ### rows of events -/

/-- the event at a place -/
def evOf (i : Nat) (b : Nat) : EvV :=
  if b % 8 = 1 then ⟨i, 2, (b / 8 : Nat), 0, 12, 0, 0⟩
  else if b % 8 = 3 then ⟨i, 4, (b / 8 : Nat), i, 0, (b % 3 : Nat) - 1, -(b : Int)⟩
  else if b % 8 = 4 then ⟨i, 5, (b / 8 : Nat), i, 0, 0, 0⟩
  else if b % 8 = 7 then ⟨i, 8, 0, 0, 0, 0, 0⟩
  else ⟨i, 1 + (b % 8 : Nat), (b / 8 : Nat), 0, 0, 0, 0⟩

theorem evOf_ok {i b : Nat} (hi : i < 60) (hb : b < 256) : evCheckP (evOf i b) = 0 ∧ (evOf i b).small ∧ (evOf i b).In := by
  have h8 : b % 8 < 8 := Nat.mod_lt _ (by omega)
  have h3 : b % 3 < 3 := Nat.mod_lt _ (by omega)
  have hd : b / 8 < 32 := by omega
  unfold evOf
  by_cases c1 : b % 8 = 1
  · rw [if_pos c1]
    refine ⟨?_, ⟨⟨by first | (simp; done) | (simp; omega), by first | (simp; done) | (simp; omega)⟩, by simp, by simp, by simp, by simp⟩, ⟨⟨by first | (simp; done) | (simp; omega), by first | (simp; done) | (simp; omega)⟩, ⟨by simp, by simp⟩, ⟨by first | (simp; done) | (simp; omega), by first | (simp; done) | (simp; omega)⟩, ⟨by simp, by simp⟩, ⟨by simp, by simp⟩, ⟨by simp, by simp⟩, ⟨by simp, by simp⟩⟩⟩
    simp [evCheckP, evBad, hasTask, hasPc, hasErr, hasRest]; omega
  · rw [if_neg c1]
    by_cases c3 : b % 8 = 3
    · rw [if_pos c3]
      refine ⟨?_, ⟨⟨by first | (simp; done) | (simp; omega), by first | (simp; done) | (simp; omega)⟩, by first | (simp; done) | (simp; omega), by first | (simp; done) | (simp; omega), by first | (simp; done) | (simp; omega), by first | (simp; done) | (simp; omega)⟩, ⟨⟨by first | (simp; done) | (simp; omega), by first | (simp; done) | (simp; omega)⟩, ⟨by simp, by simp⟩, ⟨by first | (simp; done) | (simp; omega), by first | (simp; done) | (simp; omega)⟩, ⟨by first | (simp; done) | (simp; omega), by first | (simp; done) | (simp; omega)⟩, ⟨by simp, by simp⟩, ⟨by first | (simp; done) | (simp; omega), by first | (simp; done) | (simp; omega)⟩, ⟨by first | (simp; done) | (simp; omega), by first | (simp; done) | (simp; omega)⟩⟩⟩
      simp [evCheckP, evBad, hasTask, hasPc, hasErr, hasRest]; omega
    · rw [if_neg c3]
      by_cases c4 : b % 8 = 4
      · rw [if_pos c4]
        refine ⟨?_, ⟨⟨by first | (simp; done) | (simp; omega), by first | (simp; done) | (simp; omega)⟩, by first | (simp; done) | (simp; omega), by simp, by simp, by simp⟩, ⟨⟨by first | (simp; done) | (simp; omega), by first | (simp; done) | (simp; omega)⟩, ⟨by simp, by simp⟩, ⟨by first | (simp; done) | (simp; omega), by first | (simp; done) | (simp; omega)⟩, ⟨by first | (simp; done) | (simp; omega), by first | (simp; done) | (simp; omega)⟩, ⟨by simp, by simp⟩, ⟨by simp, by simp⟩, ⟨by simp, by simp⟩⟩⟩
        simp [evCheckP, evBad, hasTask, hasPc, hasErr, hasRest]; omega
      · rw [if_neg c4]
        by_cases c7 : b % 8 = 7
        · rw [if_pos c7]
          refine ⟨?_, ⟨⟨by simp, by simp⟩, by simp, by simp, by simp, by simp⟩, ⟨⟨by first | (simp; done) | (simp; omega), by first | (simp; done) | (simp; omega)⟩, ⟨by simp, by simp⟩, ⟨by simp, by simp⟩, ⟨by simp, by simp⟩, ⟨by simp, by simp⟩, ⟨by simp, by simp⟩, ⟨by simp, by simp⟩⟩⟩
          simp [evCheckP, evBad, hasTask, hasPc, hasErr, hasRest]; omega
        · rw [if_neg c7]
          refine ⟨?_, ⟨⟨by first | (simp; done) | (simp; omega), by first | (simp; done) | (simp; omega)⟩, by simp, by simp, by simp, by simp⟩, ⟨⟨by first | (simp; done) | (simp; omega), by first | (simp; done) | (simp; omega)⟩, ⟨by first | (simp; done) | (simp; omega), by first | (simp; done) | (simp; omega)⟩, ⟨by first | (simp; done) | (simp; omega), by first | (simp; done) | (simp; omega)⟩, ⟨by simp, by simp⟩, ⟨by simp, by simp⟩, ⟨by simp, by simp⟩, ⟨by simp, by simp⟩⟩⟩
          simp only [evCheckP, evBad, hasTask, hasPc, hasErr, hasRest]
          rw [if_neg (by omega)]
          simp
          omega

def nth (l : List Int) (j : Nat) : Nat := (l.getD j 0).toNat
def evRow (l : List Int) (n : Nat) : List EvV := (List.range n).map fun j => evOf j (nth l j)

theorem evRow_next (l : List Int) (n : Nat) : evRow l (n + 1) = evRow l n ++ [evOf n (nth l n)] := by simp [evRow, List.range_succ]
theorem evRow_len (l : List Int) (n : Nat) : (evRow l n).length = n := by simp [evRow]
theorem evRow_get {l : List Int} {n i : Nat} (h : i < n) : (evRow l n)[i]'(by rw [evRow_len]; exact h) = evOf i (nth l i) := by simp [evRow]

def ElI (h : Heap) (v : CV) (l : List Int) (m : Nat) (e : Env) (h' : Heap) : Prop :=
  ∃ (i : Nat) (acc : CV), i ≤ l.length ∧ m = l.length + 1 - i ∧ e = [(0, v), (3, acc), (4, .int .i64 i)] ∧ Keep NoneOf h h' ∧ OwnL evtC h' NoneOf acc (evRow l i) ∧ ∀ b, acc.blk = some b → h.length ≤ b

def EmI (h : Heap) (acc rows : CV) (l : List Int) (m : Nat) (e : Env) (h' : Heap) : Prop :=
  ∃ i : Nat, i ≤ l.length ∧ m = l.length + 1 - i ∧ e = [(3, acc), (6, rows), (8, .int .i64 i)] ∧ Keep NoneOf h h'

theorem joinC_no10 {l : List Wd} (h : l.all wordOk = true) : ∀ b ∈ joinC 32 l, b ≠ 10 := by
  have hw : ∀ w ∈ l, ∀ b ∈ w, b ≠ 10 := fun w hw b hb e => by
    have := List.all_eq_true.1 h w hw
    simp only [wordOk, Bool.and_eq_true] at this
    have := List.all_eq_true.1 this.2 b hb
    rw [e] at this
    simp [isSeen] at this
  clear h
  induction l with
  | nil => simp [joinC]
  | cons w r ih =>
    intro b hb
    cases r with
    | nil => simp [joinC] at hb; exact hw w (by simp) b hb
    | cons u r =>
      rw [joinC_cons (by simp)] at hb
      rcases List.mem_append.1 hb with hb | hb
      · exact hw w (by simp) b hb
      · rcases List.mem_cons.1 hb with rfl | hb
        · decide
        · exact ih (fun x hx => hw x (by simp [hx])) b hb

theorem eventLines_law (lp : LP p) (hp : p.pr = addKnown [107] lib) {v : CV} {l : List Int} {P : Nat → Prop} {h : Heap} (s0 : Sl (.int .u8) h P v l) (hl8 : ∀ x ∈ l, 0 ≤ x ∧ x ≤ 255) : WF p 120 [v] h fun r _ => r = .bool true := by
  refine WF_of (by rw [lp.pg]; exact S.pg120) (lp.no' hp ⟨rfl, rfl⟩) ?_
  show W p S.b120 _ _ (retQ [.t 2] _)
  unfold S.b120
  have ca : ∀ l, (CV.agg l).cells = l := fun _ => rfl
  have lE : ∀ y : EvV, (evL y).length = 7 := fun _ => rfl
  have n0 := s0.len (by decide)
  simp
  refine WF_yes hp rfl ?_
  by_cases hl : (60 : Int) < l.length
  · simp [n0, hl]
  simp [n0, hl]
  have h60 : l.length ≤ 60 := by omega
  have hnb : ∀ i (hi : i < l.length), nth l i < 256 ∧ l[i] = (nth l i : Int) := fun i hi => by
    have := hl8 l[i] (List.getElem_mem hi)
    have e : l.getD i 0 = l[i] := by simp [List.getD, List.getElem?_eq_getElem hi]
    unfold nth
    rw [e]
    omega
  refine W_loop (ElI h v l) ?_ (l.length + 1) ⟨0, .nils, by omega, by omega, rfl, Keep.refl _ _, OwnL.nil, by simp [CV.blk]⟩
  rintro m e h1 ⟨i, acc, hi, rfl, rfl, k1, ow, hacc⟩
  have n1 := (s0.on k1).len (by decide)
  by_cases hie : i = l.length
  · subst hie
    have lA := ow.sl.len (by decide)
    rw [evRow_len] at lA
    have hok : ∀ x ∈ evRow l l.length, evCheckP x = 0 ∧ x.small ∧ x.In := fun x hx => by
      simp only [evRow, List.mem_map, List.mem_range] at hx
      obtain ⟨j, hj, rfl⟩ := hx
      exact evOf_ok (by omega) (hnb j hj).1
    simp [n1]
    refine (evLines_spec lp ow.sl (by rw [evRow_len]; omega) fun x hx => (hok x hx).2.2).mono ?_
    rintro r h2 ⟨rfl, k2⟩
    have ht10 : ∀ w ∈ (evRow l l.length).map evText, ∀ b ∈ w, b ≠ 10 := fun w hw b hb => by
      obtain ⟨x, hx, rfl⟩ := List.mem_map.1 hw
      rw [evText_eq (hok x hx).1] at hb
      exact joinC_no10 (evWords_ok (hok x hx).1 (hok x hx).2.1.fine) b hb
    have hll : (linesOf ((evRow l l.length).map evText)).length < 4294967281 := by
      have := linesOf_le ((evRow l l.length).map evText) 154 fun w hw => by
        obtain ⟨x, _, rfl⟩ := List.mem_map.1 hw
        exact evText_len x
      rw [List.length_map, evRow_len] at this
      omega
    have hlo := lines_of ht10
    refine (wordLines_spec lp hll).mono ?_
    rintro r h3 ⟨rv, rfl, sr, k3⟩
    rw [hlo] at sr ⊢
    have sr : Sl .str h3 (From h2) rv ((evRow l l.length).map evText) := sr
    have lR := sr.len (by decide)
    rw [List.length_map, evRow_len] at lR
    have lA3 := (ow.on (k2.trans k3)).sl.len (by decide)
    rw [evRow_len] at lA3
    simp [errOf, lR, lA3]
    refine W_loop (EmI h3 acc rv l) ?_ (l.length + 1) ⟨0, by omega, by omega, rfl, Keep.refl _ _⟩
    rintro m e h4 ⟨j, hj, rfl, rfl, k4⟩
    have K4 := (k2.trans k3).trans k4
    have lA4 := (ow.on K4).sl.len (by decide)
    rw [evRow_len] at lA4
    by_cases hje : j = l.length
    · subst hje
      simp [lA4]
    · have hjl : j < l.length := by omega
      have hjl' : (j : Int) < l.length := by omega
      have hjm : j < ((evRow l l.length).map evText).length := by rw [List.length_map, evRow_len]; exact hjl
      have hje' : j < (evRow l l.length).length := by rw [evRow_len]; exact hjl
      obtain ⟨b1, o1, row1, x1, x2, x3, x4⟩ := (sr.on k4).row (k := .i64) (by decide) hjm
      have x4 : row1 = [.str (evText (evOf j (nth l j)))] := by
        have x4 : row1 = [.str ((evRow l l.length).map evText)[j]] := x4
        rw [x4, List.getElem_map, evRow_get hjl]
      simp only [Cod.str] at x1 x3
      have x5 := x3 0 (by decide)
      rw [x4] at x5
      simp at x5
      obtain ⟨y1, y2, y3⟩ := evOf_ok (i := j) (b := nth l j) (by omega) (hnb j hjl).1
      have hwj : IntKind.i64.wrap ((j : Int) + 1) = ((j + 1 : Nat) : Int) := by rw [w64 (by omega) (by omega)]; omega
      have htl := evText_len (evOf j (nth l j))
      have hpt := evParse_text y1 y2
      generalize hX : evOf j (nth l j) = x at *
      simp [lA4, hjl', x1, x5]
      refine (evParse_spec lp (by omega)).mono ?_
      rintro r h5 ⟨rfl, k5⟩
      rw [hpt]
      have st5 := store_new (h := h5) (row := evL x) (z := [.int .i64 0, .int .i64 0, .int .i64 0, .int .i64 0, .int .i64 0, .int .i64 0, .int .i64 0]) rfl rfl
      have g5 : (h5 ++ [Obj.arr (evL x) .tight])[h5.length]? = some (.arr (evL x) .tight) := by simp
      have k56 : Keep NoneOf h5 (h5 ++ [.arr (evL x) .tight]) := Keep.app _ _ _
      simp [ca, lE, st5]
      generalize h5 ++ [Obj.arr (evL x) .tight] = H6 at *
      have w5 := ldw g5 (lE x)
      have K6 := (K4.trans k5).trans k56
      obtain ⟨b2, o2, row2, z1, z2, z3, z4⟩ := (ow.on K6).sl.row (k := .i64) (by decide) hje'
      have z4 : row2 = evL x := by
        have z4 : row2 = evL (evRow l l.length)[j] := z4
        rw [z4, evRow_get hjl, hX]
      simp only [evtC] at z1 z2
      rw [z4] at z2
      obtain ⟨b3, o3, row3, u1, u2, u3, u4⟩ := ((sr.on k4).on (k5.trans k56)).row (k := .i64) (by decide) hjm
      have u4 : row3 = [.str (evText x)] := by
        have u4 : row3 = [.str ((evRow l l.length).map evText)[j]] := u4
        rw [u4, List.getElem_map, evRow_get hjl, hX]
      simp only [Cod.str] at u1 u3
      have u5 := u3 0 (by decide)
      rw [u4] at u5
      simp at u5
      simp [w5, z1, z2, eqv_ev, u1, u5]
      refine WO_re (by simp) ?_
      simp
      refine (evText_spec lp y3).mono ?_
      rintro r h7 ⟨rfl, k7⟩
      have u7 := load_on u2 k7 none o3
      obtain ⟨b4, o4, row4, v1, v2, v3, v4⟩ := (((sr.on k4).on (k5.trans k56)).on k7).row (k := .i64) (by decide) hjm
      have e1 : CV.ptr b4 o4 = CV.ptr b3 o3 := by
        have v1 : idxAddrV 1 rv (.int .i64 j) = some (.ptr b4 o4) := v1
        rw [u1] at v1
        exact (Option.some.inj v1).symm
      obtain ⟨rfl, rfl⟩ : b4 = b3 ∧ o4 = o3 := by simpa using e1
      have v4 : row4 = [.str (evText x)] := by
        have v4 : row4 = [.str ((evRow l l.length).map evText)[j]] := v4
        rw [v4, List.getElem_map, evRow_get hjl, hX]
      have v5 := v3 0 (by decide)
      rw [v4] at v5
      simp at v5
      refine ⟨fun c => by simp [recheckB, wanted, Env.get, cls, evOp, Opd.ev, withH, CV.eqb, v5, CV.eqb_refl], ?_⟩
      simp [hwj]
      exact ⟨l.length + 1 - (j + 1), by omega, j + 1, by omega, by omega, rfl, ((k4.trans k5).trans k56).trans k7⟩
  · have hlt : i < l.length := by omega
    have hlt' : (i : Int) < l.length := by omega
    obtain ⟨hb, hbe⟩ := hnb i hlt
    obtain ⟨b0, o0, row, x1, x2, x3, x4⟩ := (s0.on k1).row (k := .i64) (by decide) hlt
    have x4 : row = [.int .u8 (nth l i : Int)] := by rw [← hbe]; exact x4
    simp only [Cod.int] at x1 x2 x3
    have x5 := x3 0 (by decide)
    rw [x4] at x5
    simp at x5
    have hwi : IntKind.i64.wrap ((i : Int) + 1) = ((i + 1 : Nat) : Int) := by rw [w64 (by omega) (by omega)]; omega
    have hev := evOf_ok (i := i) (b := nth l i) (by omega) hb
    have hnext := evRow_next l i
    have hdef : evOf i (nth l i) = evOf i (nth l i) := rfl
    generalize hB : nth l i = b at *
    have m1 : ((b : Int)).tmod 8 = ((b % 8 : Nat) : Int) := by rw [Int.tmod_eq_emod_of_nonneg (by omega)]; omega
    have m2 : ((b : Int)).tdiv 8 = ((b / 8 : Nat) : Int) := by rw [Int.tdiv_eq_ediv_of_nonneg (by omega)]; omega
    have m3 : ((b : Int)).tmod 3 = ((b % 3 : Nat) : Int) := by rw [Int.tmod_eq_emod_of_nonneg (by omega)]; omega
    have h8 : b % 8 < 8 := Nat.mod_lt _ (by omega)
    have h3 : b % 3 < 3 := Nat.mod_lt _ (by omega)
    have hd : b / 8 < 32 := by omega
    have q1 : IntKind.i64.wrap ((b % 8 : Nat) : Int) = ((b % 8 : Nat) : Int) := w64 (by omega) (by omega)
    have q2 : IntKind.i64.wrap (1 + ((b % 8 : Nat) : Int)) = ((1 + b % 8 : Nat) : Int) := by rw [w64 (by omega) (by omega)]; omega
    have q3 : IntKind.u8.wrap ((b / 8 : Nat) : Int) = ((b / 8 : Nat) : Int) := u8w (by omega) (by omega)
    have q4 : IntKind.i64.wrap ((b / 8 : Nat) : Int) = ((b / 8 : Nat) : Int) := w64 (by omega) (by omega)
    have q5 : IntKind.i64.wrap ((b % 3 : Nat) : Int) = ((b % 3 : Nat) : Int) := w64 (by omega) (by omega)
    have q6 : IntKind.i64.wrap (((b % 3 : Nat) : Int) - 1) = ((b % 3 : Nat) : Int) - 1 := w64 (by omega) (by omega)
    have q7 : IntKind.i64.wrap (b : Int) = b := w64 (by omega) (by omega)
    have q8 : IntKind.i64.wrap (0 - (b : Int)) = -(b : Int) := by rw [w64 (by omega) (by omega)]; omega
    have q8' : IntKind.i64.wrap (-(b : Int)) = -(b : Int) := w64 (by omega) (by omega)
    have hEv : evOf i b = if b % 8 = 1 then ⟨i, 2, (b / 8 : Nat), 0, 12, 0, 0⟩ else if b % 8 = 3 then ⟨i, 4, (b / 8 : Nat), i, 0, (b % 3 : Nat) - 1, -(b : Int)⟩ else if b % 8 = 4 then ⟨i, 5, (b / 8 : Nat), i, 0, 0, 0⟩ else if b % 8 = 7 then ⟨i, 8, 0, 0, 0, 0, 0⟩ else ⟨i, 1 + (b % 8 : Nat), (b / 8 : Nat), 0, 0, 0, 0⟩ := rfl
    obtain ⟨kk, hk⟩ : ∃ kk : Nat, kk = 1 + b % 8 := ⟨_, rfl⟩
    rw [← hk] at q2
    obtain ⟨tk, htk⟩ : ∃ tk : Nat, tk = b / 8 := ⟨_, rfl⟩
    rw [← htk] at q3 q4 m2 hEv hd
    obtain ⟨b8, hb8⟩ : ∃ b8 : Nat, b8 = b % 8 := ⟨_, rfl⟩
    rw [← hb8] at m1 q1 q2 h8 hk hEv
    obtain ⟨b3, hb3⟩ : ∃ b3 : Nat, b3 = b % 3 := ⟨_, rfl⟩
    rw [← hb3] at m3 q5 q6 h3 hEv
    clear hb8 hb3 htk hdef
    have f0 : fillC [.int .i64 0, .int .i64 0, .int .i64 0, .int .i64 0, .int .i64 0, .int .i64 0, .int .i64 0] [(0, 1, .int .i64 i), (1, 1, .int .i64 kk), (2, 1, .int .i64 tk)] = some (evL ⟨i, kk, tk, 0, 0, 0, 0⟩) := rfl
    have st1 := store_new (h := h1) (row := evL ⟨i, kk, tk, 0, 0, 0, 0⟩) (z := [.int .i64 0, .int .i64 0, .int .i64 0, .int .i64 0, .int .i64 0, .int .i64 0, .int .i64 0]) rfl rfl
    simp [n1, hlt', x1, x5, m1, m2, q1, q2, q3, q4, f0, ca, lE, st1]
    have k12 : Keep NoneOf h1 (h1 ++ [.arr (evL ⟨i, kk, tk, 0, 0, 0, 0⟩) .tight]) := Keep.app _ _ _
    have g2 : (h1 ++ [Obj.arr (evL ⟨i, kk, tk, 0, 0, 0, 0⟩) .tight])[h1.length]? = some (.arr (evL ⟨i, kk, tk, 0, 0, 0, 0⟩) .tight) := by simp
    obtain ⟨X, hX⟩ : ∃ X, h1.length = X := ⟨_, rfl⟩
    have hXn : h.length ≤ X := by rw [← hX]; exact k1.len
    have hXa : ∀ c, acc.blk = some c → c < X := fun c hc => by rw [← hX]; exact ow.blk c hc
    have hXv : ∀ c, v.blk = some c → c ≠ X := fun c hc e => by
      have := (s0.on k1).lt
      obtain ⟨_, _, ⟨_, hp⟩, _⟩ := this
      have := (hp c hc).2
      omega
    rw [hX] at g2 ⊢
    generalize h1 ++ [Obj.arr (evL ⟨i, kk, tk, 0, 0, 0, 0⟩) .tight] = H2 at *
    have lA := ld g2
    have hsto : ∀ (y : EvV) (o : Nat) (z : Int) (y' : EvV) {H' : Heap}, H'[X]? = some (.arr (evL y) .tight) → o < 7 → (evL y).set o (.int .i64 z) = evL y' → storeAt H' X o [.int .i64 z] = some (H'.set X (.arr (evL y') .tight)) := fun y o z y' {H'} g ho hs => by
      have := sto1 g (o := o) (v := .int .i64 z) (by rw [evL_len]; exact ho) rfl
      rw [hs] at this
      exact this
    have kX : ∀ {H' : Heap} (y : EvV), Keep (fun c => c = X) H' (H'.set X (.arr (evL y) .tight)) := fun y => Keep.set _ _ rfl
    have fin : ∀ {H' : Heap}, Keep (fun c => c = X) H2 H' → Keep NoneOf h H' ∧ OwnL evtC H' NoneOf acc (evRow l i) := fun {H'} k =>
      ⟨(k1.trans k12).then k fun c hc e => by omega, (ow.on k12).keep k (fun c hc e => by have := hXa c hc; omega) fun _ e => e.elim⟩
    have rdB : ∀ {H' : Heap}, Keep (fun c => c = X) H2 H' → ∃ bb oo, idxAddrV 1 v (.int .i64 i) = some (.ptr bb oo) ∧ loadAt H' bb oo none = some (.int .u8 b) := fun {H'} k => by
      have sv : Sl (.int .u8) H' (fun _ => True) v l := by
        have := ((s0.on k1).on k12).mono (Q := fun c => P c) fun _ hc => hc
        obtain ⟨cells, r, ⟨ok, pp⟩, rs⟩ := this
        have hc := (rows_ints.1 rs)
        exact ⟨cells, r.keep k fun c hc e => hXv c hc e, ⟨ok, fun _ _ => trivial⟩, rows_ints.2 hc⟩
      obtain ⟨bb, oo, row', y1, y2, y3, y4⟩ := sv.row (k := .i64) (by decide) hlt
      have y4 : row' = [.int .u8 (b : Int)] := by rw [← hbe]; exact y4
      have y5 := y3 0 (by decide)
      rw [y4] at y5
      simp at y5
      exact ⟨bb, oo, y1, y5⟩
    simp [lA, evL_1]
    refine W_toB (fun e' h' => (∃ r', e' = (0, v) :: (3, acc) :: (4, .int .i64 i) :: (5, .ptr X 0) :: r') ∧ Keep (fun c => c = X) H2 h' ∧ h'[X]? = some (.arr (evL (evOf i b)) .tight)) ?_ ?_
    · have kr : (kk : Int) = 1 + b8 := by omega
      by_cases c2 : kk = 2
      · have s1 := hsto ⟨i, kk, tk, 0, 0, 0, 0⟩ 4 12 ⟨i, kk, tk, 0, 12, 0, 0⟩ g2 (by omega) rfl
        have hE : evOf i b = ⟨i, kk, tk, 0, 12, 0, 0⟩ := by rw [hEv, if_pos (by omega), c2]; rfl
        have c2' : (kk : Int) = 2 := by omega
        simp [lA, evL_1, c2, fits, CV.cells]
        rw [c2] at s1 hE
        simp [s1]
        rw [hE]
        exact ⟨kX _, get_set_self (lt_of_get g2)⟩
      · by_cases c4 : kk = 4
        · have hE : evOf i b = ⟨i, 4, tk, i, 0, (b3 : Int) - 1, -(b : Int)⟩ := by rw [hEv, if_neg (by omega), if_pos (by omega)]
          rw [hE]
          obtain ⟨bb, oo, y1, y5⟩ := rdB (Keep.refl _ H2)
          rw [c4] at g2
          have s1 := hsto ⟨i, (4 : Nat), tk, 0, 0, 0, 0⟩ 3 i ⟨i, 4, tk, i, 0, 0, 0⟩ g2 (by omega) rfl
          have g3 : (H2.set X (.arr (evL ⟨i, 4, tk, i, 0, 0, 0⟩) .tight))[X]? = some (.arr (evL ⟨i, 4, tk, i, 0, 0, 0⟩) .tight) := get_set_self (lt_of_get g2)
          have k3 : Keep (fun c => c = X) H2 (H2.set X (.arr (evL ⟨i, 4, tk, i, 0, 0, 0⟩) .tight)) := kX _
          simp [lA, evL_1, c2, c4, y1, y5, m3, q5, q6, q7, q8, q8']
          refine WO_re_n ?_
          simp [fits, CV.cells, s1]
          generalize H2.set X (.arr (evL ⟨i, 4, tk, i, 0, 0, 0⟩) .tight) = H3 at *
          obtain ⟨bb3, oo3, y13, y53⟩ := rdB k3
          obtain ⟨rfl, rfl⟩ : bb3 = bb ∧ oo3 = oo := by rw [y1] at y13; simpa using y13.symm
          refine ⟨fun c => by simp [recheckB, wanted, Env.get, cls, evOp, Opd.ev, withH, CV.eqb, y53, CV.eqb_refl], ?_⟩
          have s2 := hsto ⟨i, 4, tk, i, 0, 0, 0⟩ 5 ((b3 : Int) - 1) ⟨i, 4, tk, i, 0, (b3 : Int) - 1, 0⟩ g3 (by omega) rfl
          have g4 : (H3.set X (.arr (evL ⟨i, 4, tk, i, 0, (b3 : Int) - 1, 0⟩) .tight))[X]? = some (.arr (evL ⟨i, 4, tk, i, 0, (b3 : Int) - 1, 0⟩) .tight) := get_set_self (lt_of_get g3)
          have k4 : Keep (fun c => c = X) H2 (H3.set X (.arr (evL ⟨i, 4, tk, i, 0, (b3 : Int) - 1, 0⟩) .tight)) := k3.trans (kX _)
          try simp
          refine WO_re_n ?_
          simp [fits, CV.cells, s2]
          generalize H3.set X (.arr (evL ⟨i, 4, tk, i, 0, (b3 : Int) - 1, 0⟩) .tight) = H4 at *
          obtain ⟨bb4, oo4, y14, y54⟩ := rdB k4
          obtain ⟨rfl, rfl⟩ : bb4 = bb3 ∧ oo4 = oo3 := by rw [y13] at y14; simpa using y14.symm
          refine ⟨fun c => by simp [recheckB, wanted, Env.get, cls, evOp, Opd.ev, withH, CV.eqb, y54, CV.eqb_refl], ?_⟩
          have s3 := hsto ⟨i, 4, tk, i, 0, (b3 : Int) - 1, 0⟩ 6 (-(b : Int)) ⟨i, 4, tk, i, 0, (b3 : Int) - 1, -(b : Int)⟩ g4 (by omega) rfl
          simp [fits, CV.cells, s3]
          exact ⟨k4.trans (kX _), get_set_self (lt_of_get g4)⟩
        · by_cases c5 : kk = 5
          · have hE : evOf i b = ⟨i, 5, tk, i, 0, 0, 0⟩ := by rw [hEv, if_neg (by omega), if_neg (by omega), if_pos (by omega)]
            rw [hE]
            rw [c5] at g2
            have s1 := hsto ⟨i, (5 : Nat), tk, 0, 0, 0, 0⟩ 3 i ⟨i, 5, tk, i, 0, 0, 0⟩ g2 (by omega) rfl
            simp [lA, evL_1, c2, c4, c5, fits, CV.cells, s1]
            exact ⟨kX _, get_set_self (lt_of_get g2)⟩
          · by_cases c8 : kk = 8
            · have hE : evOf i b = ⟨i, 8, 0, 0, 0, 0, 0⟩ := by rw [hEv, if_neg (by omega), if_neg (by omega), if_neg (by omega), if_pos (by omega)]
              rw [hE]
              rw [c8] at g2
              have s1 := hsto ⟨i, (8 : Nat), tk, 0, 0, 0, 0⟩ 2 0 ⟨i, 8, 0, 0, 0, 0, 0⟩ g2 (by omega) rfl
              simp [lA, evL_1, c2, c4, c5, c8, fits, CV.cells, s1]
              exact ⟨kX _, get_set_self (lt_of_get g2)⟩
            · have hE : evOf i b = ⟨i, kk, tk, 0, 0, 0, 0⟩ := by rw [hEv, if_neg (by omega), if_neg (by omega), if_neg (by omega), if_neg (by omega), kr]
              have z2 : ¬ (kk : Int) = 2 := by omega
              have z4 : ¬ (kk : Int) = 4 := by omega
              have z5 : ¬ (kk : Int) = 5 := by omega
              have z8 : ¬ (kk : Int) = 8 := by omega
              simp [lA, evL_1, c2, c4, c5, c8, z2, z4, z5, z8]
              rw [hE]
              exact ⟨Keep.refl _ _, g2⟩
    rintro e' h5 ⟨⟨r', rfl⟩, k5, g5⟩
    obtain ⟨K5, ow5⟩ := fin k5
    have w5 := ldw g5 (lE _)
    have f5 : ∀ y : EvV, fillC [.int .i64 0, .int .i64 0, .int .i64 0, .int .i64 0, .int .i64 0, .int .i64 0, .int .i64 0] [(0, 7, .agg (evL y))] = some (evL y) := fun y => rfl
    simp [w5, f5, spread, cellsAt, lE]
    refine OV_push (e := evtC) (x := evOf i b) (ow5.on (Keep.app _ _ _)) rfl (fun _ hb => hb.elim) (by rw [evRow_len]; simp [big]; omega) (by decide) ?_
    intro v' h6 o6 k6 b6
    simp [hwi]
    refine ⟨l.length + 1 - (i + 1), by omega, i + 1, v', by omega, by omega, rfl, (K5.trans (Keep.app _ _ _)).then k6 fun c hc e => by have := hacc c e; omega, by rw [hnext]; exact o6, fun c hc => ?_⟩
    rcases b6 c hc with q | q
    · exact hacc c q
    · have := K5.len; simp at q; omega

end Go.Cl
