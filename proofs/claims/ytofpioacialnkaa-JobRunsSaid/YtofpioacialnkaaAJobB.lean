/-
  Layer 20: beginning a run; jobs turned; jobs alike.
-/
import Derived.Test.YtofpioacialnkaaAJobT
namespace Go.Cl
open Go
set_option linter.unusedSimpArgs false
set_option linter.unusedVariables false

variable {p : PP}

theorem begin_spec {K : Nat} {h : Heap} {c : List CV} {x : JobV} {P : Nat → Prop} (hp : (p.Pg K = some S.f36 ∧ p.Pg 30 = some S.f30 ∧ p.pr 30 = none) ∨ (p.Pg K = some S.f37 ∧ p.Pg 31 = some S.f30 ∧ p.pr 31 = none)) (hq : p.pr K = none) (r0 : jobC.rep h P c x) :
    WF p K [.agg c] h fun r h' => Keep NoneOf h h' ∧ ∃ d, r = .tup [.agg d, .bool (beginF x).2] ∧ jobC.rep h' P d (beginF x).1 := by
  have r00 := r0
  obtain ⟨fv, hv, rfl, s0, t0⟩ := r0
  obtain ⟨live, flat, pc, left, used, most, since, seq, waits, held⟩ := x
  simp only [jobCells] at s0 t0 r00 ⊢
  have kap : ∀ (h : Heap) g, Keep NoneOf h (h ++ g) := fun h g => Keep.app _ _ _
  have f1 := s0.scalar
  have f2 := t0.scalar
  obtain ⟨Z, hZ⟩ : ∃ Z : List CV, Z = [.bool false, .nils, .int .i64 0, .int .i64 0, .int .i64 0, .int .i64 0, .int .i64 0, .int .i64 0, .bool false, .nils] := ⟨_, rfl⟩
  obtain ⟨o, ok, hno⟩ : ∃ o ok, nowF ⟨live, flat, pc, left, used, most, since, seq, waits, held⟩ = (o, ok) := ⟨_, _, rfl⟩
  have all : ∀ (A : List CV), A.length = 10 → A.all CV.scalar = true → ∀ h3 : Heap, h3[h.length]? = some (.arr A .tight) → h3[h.length + 1]? = some (.arr Z .tight) → Keep NoneOf h h3 →
      loadAt h3 h.length 0 (some 10) = some (.agg A) ∧ ∃ h4, storeAt h3 (h.length + 1) 0 A = some h4 ∧ loadAt h4 (h.length + 1) 0 (some 10) = some (.agg A) ∧ Keep NoneOf h h4 := by
    intro A hA fA h3 g0 g1 k3
    refine ⟨ldw g0 hA, _, sto g1 (by rw [hA, hZ]; rfl) fA, ldw (get_set_self (lt_of_get g1)) hA, ?_⟩
    have ke : Keep (fun b => b = h.length + 1) h3 (h3.set (h.length + 1) (.arr A .tight)) := Keep.set _ _ rfl
    exact k3.then ke fun b hb e => by omega
  have fA : ∀ n, ([.bool live, fv, .int .i64 pc, .int .i64 n, .int .i64 used, .int .i64 most, .int .i64 since, .int .i64 seq, .bool waits, hv] : List CV).all CV.scalar = true := fun n => by
    simp only [List.all_cons, List.all_nil, f1, f2]; rfl
  have rp : ∀ n h', Keep NoneOf h h' → jobC.rep h' P [.bool live, fv, .int .i64 pc, .int .i64 n, .int .i64 used, .int .i64 most, .int .i64 since, .int .i64 seq, .bool waits, hv] ⟨live, flat, pc, n, used, most, since, seq, waits, held⟩ := fun n h' k => ⟨fv, hv, rfl, s0.on k, t0.on k⟩
  have kk1 := kap h [.arr [.bool live, fv, .int .i64 pc, .int .i64 left, .int .i64 used, .int .i64 most, .int .i64 since, .int .i64 seq, .bool waits, hv] .tight, .arr Z .tight]
  rcases hp with ⟨hp, h30, q30⟩ | ⟨hp, h30, q30⟩
  · refine WF_of hp hq ?_
    show W p S.b36 _ _ (retQ [.cell (some 10) 2, .t 3] _)
    unfold S.b36
    rw [← hZ]
    have la : (CV.agg Z).cells = Z := rfl
    simp [two0n, la]
    refine (now_spec h30 q30 (jobC.on r00 kk1)).mono ?_
    rintro r h2 ⟨k2, d, rfl, rd⟩
    rw [hno] at rd ⊢
    have g0 := k2.at (b := h.length) (o := .arr [.bool live, fv, .int .i64 pc, .int .i64 left, .int .i64 used, .int .i64 most, .int .i64 since, .int .i64 seq, .bool waits, hv] .tight) (by simp) id
    have g1 := k2.at (b := h.length + 1) (o := .arr Z .tight) (by simp) id
    obtain ⟨cv, rfl, sc⟩ := rd
    obtain ⟨k1, n1, v1, wt1, cs1⟩ := o
    simp only at sc ⊢
    have f3 := sc.scalar
    have k02 : Keep NoneOf h h2 := kk1.trans k2
    have k03 := k02.trans (kap h2 [.arr [.int .i64 k1, .int .i64 n1, .int .i64 v1, .int .i64 wt1, cv] .tight])
    have e0 := get_app (g := [.arr [.int .i64 k1, .int .i64 n1, .int .i64 v1, .int .i64 wt1, cv] .tight]) g0
    have e1 := get_app (g := [.arr [.int .i64 k1, .int .i64 n1, .int .i64 v1, .int .i64 wt1, cv] .tight]) g1
    have l0 := ld e0
    obtain ⟨w1, h4, w2, w3, w4⟩ := all _ rfl (fA left) _ e0 e1 k03
    have st5 := store_new (h := h2) (z := [.int .i64 0, .int .i64 0, .int .i64 0, .int .i64 0, .nils]) (row := [.int .i64 k1, .int .i64 n1, .int .i64 v1, .int .i64 wt1, cv]) rfl (by simp only [List.all_cons, List.all_nil, f3]; rfl)
    by_cases c0 : ok = true
    · subst c0
      by_cases c1 : k1 = 1
      · subst c1
        by_cases c2 : left = 0
        · subst c2
          by_cases c3 : used < most
          · have hF : beginF ⟨live, flat, pc, 0, used, most, since, seq, waits, held⟩ = (⟨live, flat, pc, n1, used, most, since, seq, waits, held⟩, true) := by unfold beginF; rw [hno]; simp [c3]
            rw [hF]
            have c3' : ¬ most ≤ used := by omega
            have s3 := sto1 e0 (o := 3) (v := .int .i64 n1) (by simp) rfl
            have ke : Keep (fun b => b = h.length) (h2 ++ [Obj.arr [.int .i64 1, .int .i64 n1, .int .i64 v1, .int .i64 wt1, cv] .tight]) ((h2 ++ [Obj.arr [.int .i64 1, .int .i64 n1, .int .i64 v1, .int .i64 wt1, cv] .tight]).set h.length (.arr [.bool live, fv, .int .i64 pc, .int .i64 n1, .int .i64 used, .int .i64 most, .int .i64 since, .int .i64 seq, .bool waits, hv] .tight)) := Keep.set _ _ rfl
            obtain ⟨u1, h5, u2, u3, u4⟩ := all _ rfl (fA n1) _ (get_set_self (lt_of_get e0)) (ke.at (o := .arr Z .tight) e1 (by omega)) (k03.then ke fun b hb e => by omega)
            simp only [List.set_cons_succ, List.set_cons_zero] at s3
            simp [result, st5, one0, l0, c3, c3']
            rw [s3]
            simp [u1, u2, u3]
            exact ⟨u4, rp _ _ u4⟩
          · have c3' : most ≤ used := by omega
            have hF : beginF ⟨live, flat, pc, 0, used, most, since, seq, waits, held⟩ = (⟨live, flat, pc, 0, used, most, since, seq, waits, held⟩, false) := by unfold beginF; rw [hno]; simp [c3]
            rw [hF]
            simp [result, st5, one0, l0, c3', w1, w2, w3]
            exact ⟨w4, rp _ _ w4⟩
        · have hF : beginF ⟨live, flat, pc, left, used, most, since, seq, waits, held⟩ = (⟨live, flat, pc, left, used, most, since, seq, waits, held⟩, false) := by unfold beginF; rw [hno]; simp [c2]
          rw [hF]
          simp [result, st5, one0, l0, c2, w1, w2, w3]
          exact ⟨w4, rp _ _ w4⟩
      · have hF : beginF ⟨live, flat, pc, left, used, most, since, seq, waits, held⟩ = (⟨live, flat, pc, left, used, most, since, seq, waits, held⟩, false) := by unfold beginF; rw [hno]; simp [c1]
        rw [hF]
        simp [result, st5, one0, l0, c1, w1, w2, w3]
        exact ⟨w4, rp _ _ w4⟩
    · have c0 : ok = false := by simpa using c0
      subst c0
      have hF : beginF ⟨live, flat, pc, left, used, most, since, seq, waits, held⟩ = (⟨live, flat, pc, left, used, most, since, seq, waits, held⟩, false) := by unfold beginF; rw [hno]; simp 
      rw [hF]
      simp [result, st5, one0, l0, w1, w2, w3]
      exact ⟨w4, rp _ _ w4⟩
  · refine WF_of hp hq ?_
    show W p S.b37 _ _ (retQ [.cell (some 10) 2, .t 3] _)
    unfold S.b37
    rw [← hZ]
    have la : (CV.agg Z).cells = Z := rfl
    simp [two0n, la]
    refine (now_spec h30 q30 (jobC.on r00 kk1)).mono ?_
    rintro r h2 ⟨k2, d, rfl, rd⟩
    rw [hno] at rd ⊢
    have g0 := k2.at (b := h.length) (o := .arr [.bool live, fv, .int .i64 pc, .int .i64 left, .int .i64 used, .int .i64 most, .int .i64 since, .int .i64 seq, .bool waits, hv] .tight) (by simp) id
    have g1 := k2.at (b := h.length + 1) (o := .arr Z .tight) (by simp) id
    obtain ⟨cv, rfl, sc⟩ := rd
    obtain ⟨k1, n1, v1, wt1, cs1⟩ := o
    simp only at sc ⊢
    have f3 := sc.scalar
    have k02 : Keep NoneOf h h2 := kk1.trans k2
    have k03 := k02.trans (kap h2 [.arr [.int .i64 k1, .int .i64 n1, .int .i64 v1, .int .i64 wt1, cv] .tight])
    have e0 := get_app (g := [.arr [.int .i64 k1, .int .i64 n1, .int .i64 v1, .int .i64 wt1, cv] .tight]) g0
    have e1 := get_app (g := [.arr [.int .i64 k1, .int .i64 n1, .int .i64 v1, .int .i64 wt1, cv] .tight]) g1
    have l0 := ld e0
    obtain ⟨w1, h4, w2, w3, w4⟩ := all _ rfl (fA left) _ e0 e1 k03
    have st5 := store_new (h := h2) (z := [.int .i64 0, .int .i64 0, .int .i64 0, .int .i64 0, .nils]) (row := [.int .i64 k1, .int .i64 n1, .int .i64 v1, .int .i64 wt1, cv]) rfl (by simp only [List.all_cons, List.all_nil, f3]; rfl)
    by_cases c0 : ok = true
    · subst c0
      by_cases c1 : k1 = 1
      · subst c1
        by_cases c2 : left = 0
        · subst c2
          by_cases c3 : used < most
          · have hF : beginF ⟨live, flat, pc, 0, used, most, since, seq, waits, held⟩ = (⟨live, flat, pc, n1, used, most, since, seq, waits, held⟩, true) := by unfold beginF; rw [hno]; simp [c3]
            rw [hF]
            have c3' : ¬ most ≤ used := by omega
            have s3 := sto1 e0 (o := 3) (v := .int .i64 n1) (by simp) rfl
            have ke : Keep (fun b => b = h.length) (h2 ++ [Obj.arr [.int .i64 1, .int .i64 n1, .int .i64 v1, .int .i64 wt1, cv] .tight]) ((h2 ++ [Obj.arr [.int .i64 1, .int .i64 n1, .int .i64 v1, .int .i64 wt1, cv] .tight]).set h.length (.arr [.bool live, fv, .int .i64 pc, .int .i64 n1, .int .i64 used, .int .i64 most, .int .i64 since, .int .i64 seq, .bool waits, hv] .tight)) := Keep.set _ _ rfl
            obtain ⟨u1, h5, u2, u3, u4⟩ := all _ rfl (fA n1) _ (get_set_self (lt_of_get e0)) (ke.at (o := .arr Z .tight) e1 (by omega)) (k03.then ke fun b hb e => by omega)
            simp only [List.set_cons_succ, List.set_cons_zero] at s3
            simp [result, st5, one0, l0, c3, c3']
            rw [s3]
            simp [u1, u2, u3]
            exact ⟨u4, rp _ _ u4⟩
          · have c3' : most ≤ used := by omega
            have hF : beginF ⟨live, flat, pc, 0, used, most, since, seq, waits, held⟩ = (⟨live, flat, pc, 0, used, most, since, seq, waits, held⟩, false) := by unfold beginF; rw [hno]; simp [c3]
            rw [hF]
            simp [result, st5, one0, l0, c3', w1, w2, w3]
            exact ⟨w4, rp _ _ w4⟩
        · have hF : beginF ⟨live, flat, pc, left, used, most, since, seq, waits, held⟩ = (⟨live, flat, pc, left, used, most, since, seq, waits, held⟩, false) := by unfold beginF; rw [hno]; simp [c2]
          rw [hF]
          simp [result, st5, one0, l0, c2, w1, w2, w3]
          exact ⟨w4, rp _ _ w4⟩
      · have hF : beginF ⟨live, flat, pc, left, used, most, since, seq, waits, held⟩ = (⟨live, flat, pc, left, used, most, since, seq, waits, held⟩, false) := by unfold beginF; rw [hno]; simp [c1]
        rw [hF]
        simp [result, st5, one0, l0, c1, w1, w2, w3]
        exact ⟨w4, rp _ _ w4⟩
    · have c0 : ok = false := by simpa using c0
      subst c0
      have hF : beginF ⟨live, flat, pc, left, used, most, since, seq, waits, held⟩ = (⟨live, flat, pc, left, used, most, since, seq, waits, held⟩, false) := by unfold beginF; rw [hno]; simp 
      rw [hF]
      simp [result, st5, one0, l0, w1, w2, w3]
      exact ⟨w4, rp _ _ w4⟩

/-- a job turned: the same -/
theorem jobOf_spec {h : Heap} {c : List CV} {x : JobV} {P : Nat → Prop} (hpg : p.Pg = S.pg) (q38 : p.pr 38 = none) (q53 : p.pr 53 = none) (q32 : p.pr 32 = none) (r0 : jobC.rep h P c x) (hb : x.flat.length ≤ big) (hc : ∀ o ∈ x.flat, o.cases.length ≤ big) :
    WF p 38 [.agg c] h fun r h' => Keep NoneOf h h' ∧ ∃ d, r = .agg d ∧ jobC.rep h' (Or P h) d x := by
  obtain ⟨fv, hv, rfl, s0, t0⟩ := r0
  obtain ⟨live, flat, pc, left, used, most, since, seq, waits, held⟩ := x
  simp only [jobCells] at s0 t0 hb hc ⊢
  have kap : ∀ (h : Heap) g, Keep NoneOf h (h ++ g) := fun h g => Keep.app _ _ _
  have f1 := s0.scalar
  have f2 := t0.scalar
  obtain ⟨C, hC⟩ : ∃ C : List CV, C = [.bool live, fv, .int .i64 pc, .int .i64 left, .int .i64 used, .int .i64 most, .int .i64 since, .int .i64 seq, .bool waits, hv] := ⟨_, rfl⟩
  have i0 : C[0]? = some (.bool live) := by subst hC; rfl
  have i1 : C[1]? = some fv := by subst hC; rfl
  have i2 : C[2]? = some (.int .i64 pc) := by subst hC; rfl
  have i3 : C[3]? = some (.int .i64 left) := by subst hC; rfl
  have i4 : C[4]? = some (.int .i64 used) := by subst hC; rfl
  have i5 : C[5]? = some (.int .i64 most) := by subst hC; rfl
  have i6 : C[6]? = some (.int .i64 since) := by subst hC; rfl
  have i7 : C[7]? = some (.int .i64 seq) := by subst hC; rfl
  have i8 : C[8]? = some (.bool waits) := by subst hC; rfl
  have i9 : C[9]? = some hv := by subst hC; rfl
  refine WF_of (by rw [hpg]; exact S.pg38) q38 ?_
  show W p S.b38 _ _ (retQ [.cell (some 10) 2] _)
  unfold S.b38
  rw [← hC]
  obtain ⟨Z, hZ⟩ : ∃ Z : List CV, Z = [.bool false, .nils, .int .i64 0, .int .i64 0, .int .i64 0, .int .i64 0, .int .i64 0, .int .i64 0, .bool false, .nils] := ⟨_, rfl⟩
  simp [two0, i0, i1, i2, i3, i4, i5, i6, i7, i8, i9]
  refine WO_re_n ?_
  simp
  refine (opOfAll_spec hpg q53 q32 (s0.on (kap h _)) hb hc).mono ?_
  rintro r h2 ⟨k2, so⟩
  have e0 := k2.at (b := h.length) (o := .arr C .tight) (by simp) id
  have l0 := ld e0
  refine ⟨fun c => by simp [recheckB, wanted, Env.get, cls, evOp, Opd.ev, withH, CV.eqb, l0, i0, i1, i2, i3, i4, i5, i6, i7, i8, i9, CV.eqb_refl], ?_⟩
  have e1 := k2.at (b := h.length + 1) (o := .arr [.bool false, .nils, .int .i64 0, .int .i64 0, .int .i64 0, .int .i64 0, .int .i64 0, .int .i64 0, .bool false, .nils] .tight) (by simp) id
  have fr := so.scalar
  have fl : ([.bool live, r, .int .i64 pc, .int .i64 left, .int .i64 used, .int .i64 most, .int .i64 since, .int .i64 seq, .bool waits, hv] : List CV).all CV.scalar = true := by
    simp only [List.all_cons, List.all_nil, fr, f2]; rfl
  have ke : Keep (fun b => b = h.length + 1) h2 (h2.set (h.length + 1) (.arr [.bool live, r, .int .i64 pc, .int .i64 left, .int .i64 used, .int .i64 most, .int .i64 since, .int .i64 seq, .bool waits, hv] .tight)) := Keep.set _ _ rfl
  have kk : Keep NoneOf h _ := ((kap h _).trans k2).then ke fun b hb e => by omega
  have l2 := ldw (get_set_self (o := .arr [.bool live, r, .int .i64 pc, .int .i64 left, .int .i64 used, .int .i64 most, .int .i64 since, .int .i64 seq, .bool waits, hv] .tight) (lt_of_get e1)) (n := 10) rfl
  have s2 := sto e1 (vs := [.bool live, r, .int .i64 pc, .int .i64 left, .int .i64 used, .int .i64 most, .int .i64 since, .int .i64 seq, .bool waits, hv]) rfl fl
  simp [fillC, splice, CV.cells_scalar fr, CV.cells_scalar f2, s2, l2]
  exact ⟨kk, r, hv, rfl, (so.keep ke fun b hb e => by have : h.length + 2 ≤ b := by simpa [From] using hb
                                                      omega).mono (fun b hb => by right; have : h.length + 2 ≤ b := by simpa [From] using hb
                                                                                  omega), (t0.on kk).mono fun b hb => .inl hb⟩

end Go.Cl
