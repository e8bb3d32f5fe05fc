/-
  Layer 20: taking and giving locks.
-/
import Derived.Test.YtofpioacialnkaaAJob
namespace Go.Cl
open Go
set_option linter.unusedSimpArgs false
set_option linter.unusedVariables false

variable {p : PP}

theorem mine_own {k : IntKind} {h : Heap} {v : CV} {l : List Int} (m : Mine h 1 v (ints k l)) : OwnL (.int k) h NoneOf v l := ⟨_, m, rows_ints.2 rfl, fun b hb hn => hn⟩

theorem cloneN_spec {h : Heap} {v : CV} {l : List Int} {P : Nat → Prop} (hp : p.Pg 55 = some S.f55) (hr : p.pr 55 = none) (s : Sl (.int .i64) h P v l) (hb : l.length ≤ big) :
    WF p 55 [v] h fun r h' => OwnL (.int .i64) h' NoneOf r l ∧ Keep NoneOf h h' ∧ ∀ b, r.blk = some b → h.length ≤ b := by
  refine WF_of hp hr ?_
  show W p S.b55 _ _ (retQ [.t 2] _)
  unfold S.b55
  have hs : (ints .i64 l).all CV.scalar = true := by simp [ints]
  have r := s.ints
  rcases r with ⟨rfl, h0⟩ | ⟨b, o, n, c, cs, st, rfl, h1, h2, h3, h4⟩
  · have : l = [] := by simpa [ints] using h0
    subst this
    simp [eqv]
    exact ⟨OwnL.nil, Keep.refl _ _, by simp [CV.blk]⟩
  · have r' : Read (h ++ [.arr [] .tight]) 1 (.sl b o n c) (ints .i64 l) := .inr ⟨b, o, n, c, cs, st, rfl, h1, get_app h2, h3, h4⟩
    have sp := spread_read r'
    simp only [ints_length] at sp
    simp [eqv, fillC, sp]
    by_cases hl : l.length = 0
    · have : l = [] := List.length_eq_zero_iff.1 hl
      subst this
      simp [appendTo, ints]
      exact ⟨mine_own (l := []) (.inr ⟨h.length, 0, .tight, rfl, rfl, .inl rfl, by simp [ints]⟩), Keep.app _ _ _, by simp [CV.blk]⟩
    · have hbig : ¬ (l.length > big ∨ (ints .i64 l).all CV.scalar = false) := by rw [hs]; simp; exact hb
      simp only [appendTo]
      rw [if_neg hbig]
      simp [hl, kill]
      exact ⟨mine_own (.inr ⟨h.length + 1, l.length, .loose 1, rfl, by simp, .inr rfl, by simp⟩), Keep.app _ _ _, by simp [CV.blk]⟩

theorem take_spec {K : Nat} {h : Heap} {c : List CV} {x : JobV} {k : Int} {P : Nat → Prop} (hp : p.Pg K = some S.f43 ∨ p.Pg K = some S.f44) (hq : p.pr K = none) (h55 : p.Pg 55 = some S.f55) (q55 : p.pr 55 = none) (r0 : jobC.rep h P c x) (hb : x.held.length ≤ big) :
    WF p K [.agg c, .int .i64 k] h fun r h' => Keep NoneOf h h' ∧ ∃ d, r = .agg d ∧ jobC.rep h' (Or P h) d (takeF x k) := by
  obtain ⟨fv, hv, rfl, s0, t0⟩ := r0
  obtain ⟨live, flat, pc, left, used, most, since, seq, waits, held⟩ := x
  simp only [jobCells] at s0 t0 hb ⊢
  have kap : ∀ (h : Heap) g, Keep NoneOf h (h ++ g) := fun h g => Keep.app _ _ _
  have f1 := s0.scalar
  have f2 := t0.scalar
  obtain ⟨C, hC⟩ : ∃ C : List CV, C = [.bool live, fv, .int .i64 pc, .int .i64 left, .int .i64 used, .int .i64 most, .int .i64 since, .int .i64 seq, .bool waits, hv] := ⟨_, rfl⟩
  have fin : ∀ (h2 : Heap) (rv : CV), Keep NoneOf h h2 → OwnL (.int .i64) h2 NoneOf rv (held ++ [k]) → (∀ b, rv.blk = some b → h.length + 2 ≤ b) → h2[h.length]? = some (.arr C .tight) →
      h2[h.length + 1]? = some (.arr [.bool false, .nils, .int .i64 0, .int .i64 0, .int .i64 0, .int .i64 0, .int .i64 0, .int .i64 0, .bool false, .nils] .tight) →
      OV (storeAt h2 h.length 9 [rv]) fun h3 => ∃ D h4, loadAt h3 h.length 0 (some 10) = some (.agg D) ∧ D.length = 10 ∧ storeAt h3 (h.length + 1) 0 D = some h4 ∧ loadAt h4 (h.length + 1) 0 (some 10) = some (.agg D) ∧ Keep NoneOf h h4 ∧ jobC.rep h4 (Or P h) D (takeF ⟨live, flat, pc, left, used, most, since, seq, waits, held⟩ k) := by
    intro h2 rv k2 ow hrv g0 g1
    subst hC
    have f3 := ow.scalar
    rw [sto1 g0 (by simp) f3, OV_some]
    have l0 := lt_of_get g0
    have l1 := lt_of_get g1
    have ke : Keep (fun b => b = h.length) h2 (h2.set h.length (.arr [.bool live, fv, .int .i64 pc, .int .i64 left, .int .i64 used, .int .i64 most, .int .i64 since, .int .i64 seq, .bool waits, rv] .tight)) := Keep.set _ _ rfl
    have gg1 := ke.at g1 (by omega)
    have fl : ([.bool live, fv, .int .i64 pc, .int .i64 left, .int .i64 used, .int .i64 most, .int .i64 since, .int .i64 seq, .bool waits, rv] : List CV).all CV.scalar = true := by
      simp only [List.all_cons, List.all_nil, f1, f3]; rfl
    have ke2 : Keep (fun b => b = h.length + 1) _ ((h2.set h.length (.arr [.bool live, fv, .int .i64 pc, .int .i64 left, .int .i64 used, .int .i64 most, .int .i64 since, .int .i64 seq, .bool waits, rv] .tight)).set (h.length + 1) (.arr [.bool live, fv, .int .i64 pc, .int .i64 left, .int .i64 used, .int .i64 most, .int .i64 since, .int .i64 seq, .bool waits, rv] .tight)) := Keep.set _ _ rfl
    have kall : Keep NoneOf h _ := (k2.then ke fun b hb e => by omega).then ke2 fun b hb e => by omega
    refine ⟨_, _, ldw (get_set_self l0) rfl, rfl, sto gg1 rfl fl, ldw (get_set_self (by simpa using l1)) rfl, kall, fv, rv, rfl, (s0.on kall).mono fun b hb => .inl hb, ?_⟩
    have o2 := (ow.keep ke (fun b hb e => by have := hrv b hb; omega) fun b hb => hb.elim).keep ke2 (fun b hb e => by have := hrv b hb; omega) fun b hb => hb.elim
    refine o2.sl.mono fun b hb => ?_
    rcases hb with hb | hb
    · exact hb.elim
    · have := hrv b hb; right; omega
  rcases hp with hp | hp
  · refine WF_of hp hq ?_
    show W p S.b43 _ _ (retQ [.cell (some 10) 4] _)
    unfold S.b43
    rw [← hC]
    simp [two0]
    have e9 : C[9]? = some hv := by subst hC; rfl
    simp [e9]
    have H0 : ∀ g, t0.on (kap h g) = t0.on (kap h g) := fun _ => rfl
    refine (cloneN_spec h55 q55 (t0.on (kap h _)) hb).mono ?_
    rintro r h2 ⟨o2, k2, hr2⟩
    have g0 := k2.at (b := h.length) (o := .arr C .tight) (by simp) id
    have g1 := k2.at (b := h.length + 1) (o := .arr [.bool false, .nils, .int .i64 0, .int .i64 0, .int .i64 0, .int .i64 0, .int .i64 0, .int .i64 0, .bool false, .nils] .tight) (by simp) id
    simp [fillC, splice, spread, cellsAt]
    refine OV_push (e := .int .i64) (x := k) (o2.on (kap _ _)) rfl (fun b hb => hb.elim) hb (by decide) ?_
    intro rv h3 o3 k3 hb3
    have hl2 := k2.len
    simp at hl2
    have hrv : ∀ b, rv.blk = some b → h.length + 2 ≤ b := by
      intro b hb
      rcases hb3 b hb with q | q
      · have := hr2 b q; simp at this; omega
      · simp at q; omega
    have kk : Keep NoneOf h h3 := (((kap h _).trans k2).trans (kap _ _)).then k3 fun b hb e => by have := hr2 b e; simp at this; omega
    have n0 : r.blk ≠ some h.length := fun e => by have := hr2 _ e; simp at this; try omega
    have n1 : r.blk ≠ some (h.length + 1) := fun e => by have := hr2 _ e; simp at this; try omega
    have fin' := fin h3 rv kk o3 hrv (k3.at (get_app g0) n0) (k3.at (get_app g1) n1)
    simp [CV.cells_scalar o3.scalar, fits_scalar o3.scalar]
    obtain ⟨h4, e4, D, h5, q1, q2, q3, q4, q5, q6⟩ := fin'
    simp [e4, q1, q2, q3, q4]
    exact ⟨q5, q6⟩
  · refine WF_of hp hq ?_
    show W p S.b44 _ _ (retQ [.cell (some 10) 4] _)
    unfold S.b44
    rw [← hC]
    have e9 : C[9]? = some hv := by subst hC; rfl
    have l9 : loadAt (h ++ [.arr C .tight, .arr [.bool false, .nils, .int .i64 0, .int .i64 0, .int .i64 0, .int .i64 0, .int .i64 0, .int .i64 0, .bool false, .nils] .tight, .arr [] .tight]) h.length 9 none = some hv := by simp [loadAt, e9]
    have sp := (t0.on (kap h [.arr C .tight, .arr [.bool false, .nils, .int .i64 0, .int .i64 0, .int .i64 0, .int .i64 0, .int .i64 0, .int .i64 0, .bool false, .nils] .tight, .arr [] .tight])).spread (by decide)
    obtain ⟨cells, sp1, sp2⟩ := sp
    simp only [Cod.int] at sp1
    simp [fillC, l9, sp1]
    have g2 : (h ++ [.arr C .tight, .arr [.bool false, .nils, .int .i64 0, .int .i64 0, .int .i64 0, .int .i64 0, .int .i64 0, .int .i64 0, .bool false, .nils] .tight, .arr [] .tight])[h.length + 2]? = some (.arr [] .tight) := by simp
    refine OV_pushes (e := .int .i64) (l := []) (P := NoneOf) (mine_own (l := []) (.inr ⟨h.length + 2, 0, .tight, rfl, rfl, .inl rfl, g2⟩)) (rows_ints.2 (rows_ints.1 sp2)) rfl (fun b hb => hb.elim) (by simp [big]) hb (by decide) ?_
    rw [List.nil_append]
    intro r h2 o2 k2 hb2
    have g0 := k2.at (b := h.length) (o := .arr C .tight) (by simp) (by simp [CV.blk])
    have g1 := k2.at (b := h.length + 1) (o := .arr [.bool false, .nils, .int .i64 0, .int .i64 0, .int .i64 0, .int .i64 0, .int .i64 0, .int .i64 0, .bool false, .nils] .tight) (by simp) (by simp [CV.blk])
    have hr2 : ∀ b, r.blk = some b → h.length + 2 ≤ b := by
      intro b hb
      rcases hb2 b hb with q | q
      · simp [CV.blk] at q; omega
      · simp at q; omega
    have k20 : Keep NoneOf h h2 := (kap h _).then k2 fun b hb e => by simp [CV.blk] at e; omega
    simp [splice, spread, cellsAt]
    refine OV_push (e := .int .i64) (x := k) (o2.on (kap _ _)) rfl (fun b hb => hb.elim) hb (by decide) ?_
    intro rv h3 o3 k3 hb3
    have hl2 := k2.len
    simp at hl2
    have hrv : ∀ b, rv.blk = some b → h.length + 2 ≤ b := by
      intro b hb
      rcases hb3 b hb with q | q
      · exact hr2 b q
      · simp at q; omega
    have kk : Keep NoneOf h h3 := (k20.trans (kap _ _)).then k3 fun b hb e => by have := hr2 b e; omega
    have n0 : r.blk ≠ some h.length := fun e => by have := hr2 _ e; omega
    have n1 : r.blk ≠ some (h.length + 1) := fun e => by have := hr2 _ e; omega
    have fin' := fin h3 rv kk o3 hrv (k3.at (get_app g0) n0) (k3.at (get_app g1) n1)
    simp [CV.cells_scalar o3.scalar, fits_scalar o3.scalar]
    obtain ⟨h4, e4, D, h5, q1, q2, q3, q4, q5, q6⟩ := fin'
    simp [e4, q1, q2, q3, q4]
    exact ⟨q5, q6⟩

def GiveInv1 (h : Heap) (C : List CV) (hv : CV) (held : List Int) (k : Int) (m : Nat) (e : Env) (h' : Heap) : Prop :=
  ∃ (i : Nat) (ov : CV), i ≤ held.length ∧ m = held.length - i ∧ e = [(1, .int .i64 k), (2, .ptr h.length 0), (4, .ptr (h.length + 1) 0), (5, ov), (9, hv), (10, .int .i64 held.length), (11, .int .i64 i)] ∧ Keep NoneOf h h' ∧ h'[h.length]? = some (.arr C .tight) ∧
    h'[h.length + 1]? = some (.arr [.bool false, .nils, .int .i64 0, .int .i64 0, .int .i64 0, .int .i64 0, .int .i64 0, .int .i64 0, .bool false, .nils] .tight) ∧ OwnL (.int .i64) h' NoneOf ov ((held.take i).filter fun y => decide (y ≠ k)) ∧ ∀ b, ov.blk = some b → h.length + 2 ≤ b

def GiveInv2 (h : Heap) (C : List CV) (hv : CV) (held : List Int) (k : Int) (m : Nat) (e : Env) (h' : Heap) : Prop :=
  ∃ (i : Nat) (ov : CV), i ≤ held.length ∧ m = held.length - i ∧ e = [(1, .int .i64 k), (2, .ptr h.length 0), (4, .ptr (h.length + 1) 0), (5, ov), (6, .int .i64 i)] ∧ Keep NoneOf h h' ∧ h'[h.length]? = some (.arr C .tight) ∧
    h'[h.length + 1]? = some (.arr [.bool false, .nils, .int .i64 0, .int .i64 0, .int .i64 0, .int .i64 0, .int .i64 0, .int .i64 0, .bool false, .nils] .tight) ∧ OwnL (.int .i64) h' NoneOf ov ((held.take i).filter fun y => decide (y ≠ k)) ∧ ∀ b, ov.blk = some b → h.length + 2 ≤ b

theorem filter_len {l : List Int} {f : Int → Bool} {i : Nat} (h : l.length ≤ big) : ((l.take i).filter f).length ≤ big := by
  have := List.length_filter_le f (l.take i)
  have : (l.take i).length ≤ l.length := by simp; omega
  omega

theorem give_spec {K : Nat} {h : Heap} {c : List CV} {x : JobV} {k : Int} {P : Nat → Prop} (hp : p.Pg K = some S.f45 ∨ p.Pg K = some S.f46) (hq : p.pr K = none) (r0 : jobC.rep h P c x) (hb : x.held.length ≤ big) :
    WF p K [.agg c, .int .i64 k] h fun r h' => Keep NoneOf h h' ∧ ∃ d, r = .agg d ∧ jobC.rep h' (Or P h) d (giveF x k) := by
  obtain ⟨fv, hv, rfl, s0, t0⟩ := r0
  obtain ⟨live, flat, pc, left, used, most, since, seq, waits, held⟩ := x
  simp only [jobCells] at s0 t0 hb ⊢
  have kap : ∀ (h : Heap) g, Keep NoneOf h (h ++ g) := fun h g => Keep.app _ _ _
  have f1 := s0.scalar
  have f2 := t0.scalar
  obtain ⟨C, hC⟩ : ∃ C : List CV, C = [.bool live, fv, .int .i64 pc, .int .i64 left, .int .i64 used, .int .i64 most, .int .i64 since, .int .i64 seq, .bool waits, hv] := ⟨_, rfl⟩
  have fin : ∀ (h2 : Heap) (rv : CV), Keep NoneOf h h2 → OwnL (.int .i64) h2 NoneOf rv (held.filter fun y => decide (y ≠ k)) → (∀ b, rv.blk = some b → h.length + 2 ≤ b) → h2[h.length]? = some (.arr C .tight) →
      h2[h.length + 1]? = some (.arr [.bool false, .nils, .int .i64 0, .int .i64 0, .int .i64 0, .int .i64 0, .int .i64 0, .int .i64 0, .bool false, .nils] .tight) →
      OV (storeAt h2 h.length 9 [rv]) fun h3 => ∃ D h4, loadAt h3 h.length 0 (some 10) = some (.agg D) ∧ D.length = 10 ∧ storeAt h3 (h.length + 1) 0 D = some h4 ∧ loadAt h4 (h.length + 1) 0 (some 10) = some (.agg D) ∧ Keep NoneOf h h4 ∧ jobC.rep h4 (Or P h) D (giveF ⟨live, flat, pc, left, used, most, since, seq, waits, held⟩ k) := by
    intro h2 rv k2 ow hrv g0 g1
    subst hC
    have f3 := ow.scalar
    rw [sto1 g0 (by simp) f3, OV_some]
    have l0 := lt_of_get g0
    have l1 := lt_of_get g1
    have ke : Keep (fun b => b = h.length) h2 (h2.set h.length (.arr [.bool live, fv, .int .i64 pc, .int .i64 left, .int .i64 used, .int .i64 most, .int .i64 since, .int .i64 seq, .bool waits, rv] .tight)) := Keep.set _ _ rfl
    have gg1 := ke.at g1 (by omega)
    have fl : ([.bool live, fv, .int .i64 pc, .int .i64 left, .int .i64 used, .int .i64 most, .int .i64 since, .int .i64 seq, .bool waits, rv] : List CV).all CV.scalar = true := by
      simp only [List.all_cons, List.all_nil, f1, f3]; rfl
    have ke2 : Keep (fun b => b = h.length + 1) _ ((h2.set h.length (.arr [.bool live, fv, .int .i64 pc, .int .i64 left, .int .i64 used, .int .i64 most, .int .i64 since, .int .i64 seq, .bool waits, rv] .tight)).set (h.length + 1) (.arr [.bool live, fv, .int .i64 pc, .int .i64 left, .int .i64 used, .int .i64 most, .int .i64 since, .int .i64 seq, .bool waits, rv] .tight)) := Keep.set _ _ rfl
    have kall : Keep NoneOf h _ := (k2.then ke fun b hb e => by omega).then ke2 fun b hb e => by omega
    refine ⟨_, _, ldw (get_set_self l0) rfl, rfl, sto gg1 rfl fl, ldw (get_set_self (by simpa using l1)) rfl, kall, fv, rv, rfl, (s0.on kall).mono fun b hb => .inl hb, ?_⟩
    have o2 := (ow.keep ke (fun b hb e => by have := hrv b hb; omega) fun b hb => hb.elim).keep ke2 (fun b hb e => by have := hrv b hb; omega) fun b hb => hb.elim
    refine o2.sl.mono fun b hb => ?_
    rcases hb with hb | hb
    · exact hb.elim
    · have := hrv b hb; right; omega
  have e9 : C[9]? = some hv := by subst hC; rfl
  have hbb : (held.length : Int) ≤ 4294967296 := by simp [big] at hb; omega
  rcases hp with hp | hp
  · refine WF_of hp hq ?_
    show W p S.b45 _ _ (retQ [.cell (some 10) 4] _)
    unfold S.b45
    rw [← hC]
    have n0 := (t0.on (kap h [.arr C .tight, .arr [.bool false, .nils, .int .i64 0, .int .i64 0, .int .i64 0, .int .i64 0, .int .i64 0, .int .i64 0, .bool false, .nils] .tight])).len (by decide)
    simp [two0, e9, n0]
    refine W_loop (GiveInv1 h C hv held k) ?_ held.length ⟨0, .nils, by omega, by omega, rfl, kap _ _, by simp, by simp, OwnL.nil, by simp [CV.blk]⟩
    rintro m e h1 ⟨i, ov, hi, rfl, rfl, k1, g0, g1, ow, hov⟩
    by_cases hie : i = held.length
    · subst hie
      rw [List.take_length] at ow
      simp
      have fin' := fin h1 ov k1 ow hov g0 g1
      simp [CV.cells_scalar ow.scalar, fits_scalar ow.scalar]
      obtain ⟨h4, e4, D, h5, q1, q2, q3, q4, q5, q6⟩ := fin'
      simp [e4, q1, q2, q3, q4]
      exact ⟨q5, q6⟩
    · have hlt : i < held.length := by omega
      have hlt' : (i : Int) < held.length := by omega
      obtain ⟨b0, o0, x1, x2, x3⟩ := readI_idx (k' := .i64) (t0.on k1).ints hlt
      have hw : IntKind.i64.wrap ((i : Int) + 1) = ((i + 1 : Nat) : Int) := by rw [w64 (by omega) (by omega)]; omega
      by_cases he : held[i] = k
      · simp [hlt', x1, x3, he, hw]
        refine ⟨held.length - (i + 1), by omega, i + 1, ov, by omega, rfl, rfl, k1, g0, g1, ?_, hov⟩
        rw [← List.take_append_getElem hlt, List.filter_append]
        simpa [he] using ow
      · simp [hlt', x1, x3, he, hw, fillC, splice, spread, cellsAt]
        refine OV_push (e := .int .i64) (x := held[i]) (ow.on (kap _ _)) rfl (fun b hb => hb.elim) (filter_len hb) (by decide) ?_
        intro v' h2 o2 k2 hb2
        simp
        refine ⟨held.length - (i + 1), by omega, i + 1, v', by omega, rfl, rfl, (k1.trans (kap _ _)).then k2 fun b hb e => by have := hov b e; omega, k2.at (get_app g0) (fun e => by have := hov _ e; omega), k2.at (get_app g1) (fun e => by have := hov _ e; omega), ?_, fun b hb => ?_⟩
        · rw [← List.take_append_getElem hlt, List.filter_append]
          simpa [he] using o2
        · rcases hb2 b hb with q | q
          · exact hov b q
          · have := lt_of_get g1; simp at q; omega
  · refine WF_of hp hq ?_
    show W p S.b46 _ _ (retQ [.cell (some 10) 4] _)
    unfold S.b46
    rw [← hC]
    simp
    refine W_loop (GiveInv2 h C hv held k) ?_ held.length ⟨0, .nils, by omega, by omega, rfl, kap _ _, by simp, by simp, OwnL.nil, by simp [CV.blk]⟩
    rintro m e h1 ⟨i, ov, hi, rfl, rfl, k1, g0, g1, ow, hov⟩
    have l0 := ld g0
    have n0 := (t0.on k1).len (by decide)
    by_cases hie : i = held.length
    · subst hie
      rw [List.take_length] at ow
      simp [l0, e9, n0]
      have fin' := fin h1 ov k1 ow hov g0 g1
      simp [CV.cells_scalar ow.scalar, fits_scalar ow.scalar]
      obtain ⟨h4, e4, D, h5, q1, q2, q3, q4, q5, q6⟩ := fin'
      simp [e4, q1, q2, q3, q4]
      exact ⟨q5, q6⟩
    · have hlt : i < held.length := by omega
      have hlt' : (i : Int) < held.length := by omega
      obtain ⟨b0, o0, x1, x2, x3⟩ := readI_idx (k' := .i64) (t0.on k1).ints hlt
      have hw : IntKind.i64.wrap ((i : Int) + 1) = ((i + 1 : Nat) : Int) := by rw [w64 (by omega) (by omega)]; omega
      by_cases he : held[i] = k
      · simp [l0, e9, n0, hlt', x1, x3, he, hw]
        refine ⟨held.length - (i + 1), by omega, i + 1, ov, by omega, rfl, rfl, k1, g0, g1, ?_, hov⟩
        rw [← List.take_append_getElem hlt, List.filter_append]
        simpa [he] using ow
      · simp [l0, e9, n0, hlt', x1, x3, he, hw, fillC, splice, spread, cellsAt]
        refine OV_push (e := .int .i64) (x := held[i]) (ow.on (kap _ _)) rfl (fun b hb => hb.elim) (filter_len hb) (by decide) ?_
        intro v' h2 o2 k2 hb2
        simp
        refine ⟨held.length - (i + 1), by omega, i + 1, v', by omega, rfl, rfl, (k1.trans (kap _ _)).then k2 fun b hb e => by have := hov b e; omega, k2.at (get_app g0) (fun e => by have := hov _ e; omega), k2.at (get_app g1) (fun e => by have := hov _ e; omega), ?_, fun b hb => ?_⟩
        · rw [← List.take_append_getElem hlt, List.filter_append]
          simpa [he] using o2
        · rcases hb2 b hb with q | q
          · exact hov b q
          · have := lt_of_get g1; simp at q; omega
end Go.Cl
