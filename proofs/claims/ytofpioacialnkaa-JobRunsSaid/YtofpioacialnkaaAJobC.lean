/-
  Layer 20: jobs turned back; few; alike.
-/
import Derived.Test.YtofpioacialnkaaAJobB
namespace Go.Cl
open Go
set_option linter.unusedSimpArgs false
set_option linter.unusedVariables false

variable {p : PP}

theorem OwnL.sl0 {α : Type} {e : Cod α} {h : Heap} {P : Nat → Prop} {v : CV} {l : List α} (s : OwnL e h P v l) {Q : Nat → Prop} (k : ∀ b, P b → Q b) (hv : ∀ b, v.blk = some b → Q b) : Sl e h Q v l := s.sl.mono fun b hb => by
  rcases hb with hb | hb
  · exact k b hb
  · exact hv b hb

/-- the document's job turned into the program's: the same -/
theorem jobTo_spec {h : Heap} {c : List CV} {x : JobV} {P : Nat → Prop} (hpg : p.Pg = S.pg) (q29 : p.pr 29 = none) (q60 : p.pr 60 = none) (q68 : p.pr 68 = none) (r0 : jobC.rep h P c x) (hb : x.flat.length ≤ big) (hc : ∀ o ∈ x.flat, o.cases.length ≤ big) (hh : x.held.length ≤ big) :
    WF p 29 [.agg c] h fun r h' => Keep NoneOf h h' ∧ ∃ d, r = .agg d ∧ jobC.rep h' (From h) d x := by
  obtain ⟨fv, hv, rfl, s0, t0⟩ := r0
  obtain ⟨live, flat, pc, left, used, most, since, seq, waits, held⟩ := x
  simp only [jobCells] at s0 t0 hb hc hh ⊢
  have kap : ∀ (h : Heap) g, Keep NoneOf h (h ++ g) := fun h g => Keep.app _ _ _
  have f1 := s0.scalar
  have f2 := t0.scalar
  obtain ⟨C, hC⟩ : ∃ C : List CV, C = [.bool live, fv, .int .i64 pc, .int .i64 left, .int .i64 used, .int .i64 most, .int .i64 since, .int .i64 seq, .bool waits, hv] := ⟨_, rfl⟩
  have i0 : C[0]? = some (.bool live) := by subst hC; rfl
  have i1 : C[1]? = some fv := by subst hC; rfl
  have i2 : C[2]? = some (.int .i64 pc) := by subst hC; rfl
  have i3 : C[3]? = some (.int .i64 left) := by subst hC; rfl
  have i4 : C[4]? = some (.int .i64 used) := by subst hC; rfl
  have i5 : C[5]? = some (.int .i64 most) := by subst hC; rfl
  have i6 : C[6]? = some (.int .i64 since) := by subst hC; rfl
  have i7 : C[7]? = some (.int .i64 seq) := by subst hC; rfl
  have i8 : C[8]? = some (.bool waits) := by subst hC; rfl
  have i9 : C[9]? = some hv := by subst hC; rfl
  refine WF_of (by rw [hpg]; exact S.pg29) q29 ?_
  show W p S.b29 _ _ (retQ [.cell (some 10) 2] _)
  unfold S.b29
  rw [← hC]
  have three : ∀ (ob ob2 : Obj) (o : Nat), loadAt (h ++ [.arr C .tight, ob, ob2]) h.length o none = C[o]? := fun ob ob2 o => by simp [loadAt]
  simp [two0, three, fillC, i0, i1, i2, i3, i4, i5, i6, i7, i8, i9]
  refine WO_re_n ?_
  simp
  refine (opToAll_spec hpg q60 q68 (s0.on (kap h _)) hb hc).mono ?_
  rintro r h2 ⟨k2, so⟩
  have e0 := k2.at (b := h.length) (o := .arr C .tight) (by simp) id
  have l0 := ld e0
  refine ⟨fun c => by simp [recheckB, wanted, Env.get, cls, evOp, Opd.ev, withH, CV.eqb, l0, i0, i1, i2, i3, i4, i5, i6, i7, i8, i9, CV.eqb_refl], ?_⟩
  have e1 := k2.at (b := h.length + 1) (o := .arr [.bool false, .nils, .int .i64 0, .int .i64 0, .int .i64 0, .int .i64 0, .int .i64 0, .int .i64 0, .bool false, .nils] .tight) (by simp) id
  have e2 := k2.at (b := h.length + 2) (o := .arr [] .tight) (by simp) id
  obtain ⟨cells, sp1, sp2⟩ := ((t0.on (kap h _)).on k2).spread (by decide)
  simp only [Cod.int] at sp1
  refine WO_re_n ?_
  simp [sp1]
  refine OV_pushes (e := .int .i64) (l := []) (P := NoneOf) (mine_own (l := []) (.inr ⟨h.length + 2, 0, .tight, rfl, rfl, .inl rfl, e2⟩)) (rows_ints.2 (rows_ints.1 sp2)) rfl (fun b hb => hb.elim) (by simp [big]) hh (by decide) ?_
  rw [List.nil_append]
  intro hv2 h3 o3 k3 hb3
  have g0 := k3.at e0 (by simp [CV.blk])
  have g1 := k3.at e1 (by simp [CV.blk])
  have l3 := ld g0
  refine ⟨fun c => by simp [recheckB, wanted, Env.get, cls, evOp, Opd.ev, withH, CV.eqb, l3, i0, i1, i2, i3, i4, i5, i6, i7, i8, i9, CV.eqb_refl], ?_⟩
  have fr := so.scalar
  have fr2 := o3.scalar
  have fl : ([.bool live, r, .int .i64 pc, .int .i64 left, .int .i64 used, .int .i64 most, .int .i64 since, .int .i64 seq, .bool waits, hv2] : List CV).all CV.scalar = true := by
    simp only [List.all_cons, List.all_nil, fr, fr2]; rfl
  have ke : Keep (fun b => b = h.length + 1) h3 (h3.set (h.length + 1) (.arr [.bool live, r, .int .i64 pc, .int .i64 left, .int .i64 used, .int .i64 most, .int .i64 since, .int .i64 seq, .bool waits, hv2] .tight)) := Keep.set _ _ rfl
  have kk : Keep NoneOf h _ := (((kap h _).trans k2).then k3 fun b hb e => by simp [CV.blk] at e; omega).then ke fun b hb e => by omega
  have l2 := ldw (get_set_self (o := .arr [.bool live, r, .int .i64 pc, .int .i64 left, .int .i64 used, .int .i64 most, .int .i64 since, .int .i64 seq, .bool waits, hv2] .tight) (lt_of_get g1)) (n := 10) rfl
  have s2 := sto g1 (vs := [.bool live, r, .int .i64 pc, .int .i64 left, .int .i64 used, .int .i64 most, .int .i64 since, .int .i64 seq, .bool waits, hv2]) rfl fl
  have hl2 := k2.len
  simp at hl2
  have hv3 : ∀ b, hv2.blk = some b → h.length + 2 ≤ b := by
    intro b hb
    rcases hb3 b hb with q | q
    · simp [CV.blk] at q; omega
    · omega
  have so2 : ∀ b, From (h ++ [.arr C .tight, .arr [.bool false, .nils, .int .i64 0, .int .i64 0, .int .i64 0, .int .i64 0, .int .i64 0, .int .i64 0, .bool false, .nils] .tight, .arr [] .tight]) b → h.length + 3 ≤ b := fun b hb => by simpa [From] using hb
  simp [fillC, splice, CV.cells_scalar fr, CV.cells_scalar fr2, s2, l2]
  exact ⟨kk, r, hv2, rfl, ((so.keep k3 fun b hb e => by have := so2 b hb; simp [CV.blk] at e; omega).keep ke fun b hb e => by have := so2 b hb; omega).mono (fun b hb => by have := so2 b hb; simp only [From]; omega),
    (o3.keep ke (fun b hb e => by have := hv3 b hb; omega) fun b hb => hb.elim).sl0 (fun b hb => hb.elim) fun b hb => by have := hv3 b hb; simp only [From]; omega⟩

def fewF (x : JobV) : Bool := decide (x.flat.length ≤ 100) && decide (x.held.length ≤ 20) && decide (0 ≤ x.left) && decide (0 ≤ x.used) && decide (x.used < 1152921504606846976) && decide (0 ≤ x.most) && decide (0 ≤ x.pc) && decide (x.pc < 1099511627776) && FewP (x.flat.take (min x.flat.length 60))

theorem jobFew_spec {h : Heap} {c : List CV} {x : JobV} {P : Nat → Prop} (hpg : p.Pg = S.pg) (q28 : p.pr 28 = none) (q59 : p.pr 59 = none) (q67 : p.pr 67 = none) (r0 : jobC.rep h P c x) :
    WF p 28 [.agg c] h fun r h' => Keep NoneOf h h' ∧ r = .bool (fewF x) := by
  obtain ⟨fv, hv, rfl, s0, t0⟩ := r0
  obtain ⟨live, flat, pc, left, used, most, since, seq, waits, held⟩ := x
  simp only [jobCells] at s0 t0 ⊢
  have kap : ∀ (h : Heap) g, Keep NoneOf h (h ++ g) := fun h g => Keep.app _ _ _
  refine WF_of (by rw [hpg]; exact S.pg28) q28 ?_
  show W p S.b28 _ _ (retQ [.t 2] _)
  unfold S.b28
  have s1 := s0.on (kap h [.arr [.bool live, fv, .int .i64 pc, .int .i64 left, .int .i64 used, .int .i64 most, .int .i64 since, .int .i64 seq, .bool waits, hv] .tight])
  have t1 := t0.on (kap h [.arr [.bool live, fv, .int .i64 pc, .int .i64 left, .int .i64 used, .int .i64 most, .int .i64 since, .int .i64 seq, .bool waits, hv] .tight])
  have ns := s1.len (by decide)
  have nt := t1.len (by decide)
  simp only [fewF]
  by_cases c1 : (flat.length : Int) ≤ 100
  · by_cases c2 : (held.length : Int) ≤ 20
    · by_cases c3 : 0 ≤ left
      · by_cases c4 : 0 ≤ used
        · by_cases c5 : used < 1152921504606846976
          · by_cases c6 : 0 ≤ most
            · by_cases c7 : 0 ≤ pc
              · by_cases c8 : pc < 1099511627776
                · obtain ⟨m, hm⟩ : ∃ m, m = min flat.length 60 := ⟨_, rfl⟩
                  have hmn : mnL [.int .i64 (flat.length : Int), .int .i64 60] = some (.int .i64 (m : Int)) := by
                    simp only [mnL, mnR, if_true]
                    congr 2
                    split <;> omega
                  obtain ⟨v', z1, z2⟩ := s1.cut (by decide) (k := .i64) (m := m) (by omega)
                  simp only [opC] at z1
                  have d1 : flat.length ≤ 100 := by omega
                  have d2 : held.length ≤ 20 := by omega
                  simp [one0, ns, nt, c1, c2, c3, c4, c5, c6, c7, c8, hmn, z1]
                  refine (progFew_spec hpg q59 q67 z2).mono ?_
                  rintro r h2 ⟨rfl, k2⟩
                  simp [d1, d2, ← hm]
                  exact (kap h _).trans k2
                · simp [one0, ns, nt, c1, c2, c3, c4, c5, c6, c7, c8]; exact kap h _
              · simp [one0, ns, nt, c1, c2, c3, c4, c5, c6, c7]; exact kap h _
            · simp [one0, ns, nt, c1, c2, c3, c4, c5, c6]; exact kap h _
          · simp [one0, ns, nt, c1, c2, c3, c4, c5]; exact kap h _
        · simp [one0, ns, nt, c1, c2, c3, c4]; exact kap h _
      · simp [one0, ns, nt, c1, c2, c3]; exact kap h _
    · have d2 : ¬ held.length ≤ 20 := by omega
      simp [one0, ns, nt, c1, c2, d2]; exact kap h _
  · have d1 : ¬ flat.length ≤ 100 := by omega
    simp [one0, ns, nt, c1, d1]; exact kap h _

end Go.Cl
