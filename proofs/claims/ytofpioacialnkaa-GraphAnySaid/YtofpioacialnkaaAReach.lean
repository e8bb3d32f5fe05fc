/-
  Layer 18: what 'reach', 'Round' come to.
-/
import Derived.Test.YtofpioacialnkaaAGraphL
import Derived.Test.YtofpioacialnkaaPReach
import Derived.Test.YtofpioacialnkaaClRoom
namespace Go.Cl
open Go
set_option linter.unusedSimpArgs false
set_option linter.unusedVariables false

variable {p : PP}

/-- 'm[k] = v' in one -/
theorem MapI.up {h : Heap} {kd : IntKind} {mb : Nat} {f : Int → Option CV} (m : MapI h kd mb f) (v : CV) (k : Int) :
    ∃ h1, mapupV h .i (.mp mb) (.int kd k) v = some h1 ∧ MapI h1 kd mb (upd f k v) ∧ Keep (· = mb) h h1 ∧ h1.length = h.length := by
  obtain ⟨es, c, h1, h2, h3⟩ := m
  have hl := lt_of_get h1
  rcases find_cases k es 0 h2.key with ⟨q1, q2⟩ | ⟨l1, u, b, l2, rfl, q0, q1, q2⟩
  · refine ⟨h.set mb (.map (es ++ [(.int kd k, v, c)]) (c + 1)), by simp [mapupV, h1, q2], ⟨_, _, get_set_self hl, ⟨?_, ?_, ?_⟩, ?_⟩, Keep.set _ _ rfl, by simp⟩
    · intro x hx
      rcases List.mem_append.1 hx with hx | hx
      · exact h2.key x hx
      · simp at hx; subst hx; exact ⟨k, rfl⟩
    · intro x hx
      rcases List.mem_append.1 hx with hx | hx
      · exact Nat.lt_succ_of_lt (h2.lt x hx)
      · simp at hx; subst hx; exact Nat.lt_succ_self c
    · rw [List.map_append, List.nodup_append]
      refine ⟨h2.nd, by simp, ?_⟩
      intro a ha b' hb e
      simp at hb
      subst hb; subst e
      obtain ⟨x, hx, hxe⟩ := List.mem_map.1 ha
      exact absurd hxe (Nat.ne_of_lt (h2.lt x hx))
    · intro i
      rw [asc_append]
      unfold upd
      by_cases hi : i = k
      · subst hi; simp [q1, asc]
      · rw [h3 i]
        have : ¬ k = i := fun e => hi e.symm
        cases f i <;> simp [asc, this, hi]
  · refine ⟨h.set mb (.map (l1 ++ (.int kd k, v, b) :: l2) c), ?_, ⟨_, _, get_set_self hl, ⟨?_, ?_, ?_⟩, ?_⟩, Keep.set _ _ rfl, by simp⟩
    · simp only [mapupV, h1, q2, Nat.zero_add, set_app]
    · intro x hx
      rcases List.mem_append.1 hx with hx | hx
      · exact h2.key x (by simp [hx])
      · rcases List.mem_cons.1 hx with rfl | hx
        · exact ⟨k, rfl⟩
        · exact h2.key x (by simp [hx])
    · intro x hx
      rcases List.mem_append.1 hx with hx | hx
      · exact h2.lt x (by simp [hx])
      · rcases List.mem_cons.1 hx with rfl | hx
        · exact h2.lt (.int kd k, u, b) (by simp)
        · exact h2.lt x (by simp [hx])
    · have := h2.nd
      simpa using this
    · intro i
      have hi3 := h3 i
      rw [asc_append] at hi3 ⊢
      unfold upd
      by_cases hi : i = k
      · subst hi; simp [asc_none q0, asc]
      · have : ¬ k = i := fun e => hi e.symm
        simp only [hi, if_false]
        rw [← hi3]
        simp [asc, this]

/-- a set of numbers as a map -/
def setF (R : List Int) : Int → Option CV := fun k => if k ∈ R then some (.bool true) else none
theorem setF_cons {R : List Int} {k : Int} : upd (setF R) k (.bool true) = setF (k :: R) := by
  funext i; unfold upd setF
  by_cases h : i = k <;> simp [h]

def RInv (n s : Int) (E : List (Int × Int)) (v2 : CV) (mb : Nat) (hC : Heap) (m : Nat) (e : Env) (h' : Heap) : Prop :=
  ∃ (tv : CV) (R T : List Int), m = T.length + left E R ∧ m ≤ E.length + 1 ∧ e = [(0, .int .i64 n), (2, v2), (7, .mp mb), (8, tv)] ∧ Keep (fun b => hC.length ≤ b) hC h' ∧ MapI h' .i64 mb (setF R) ∧ Roomy h' 1 tv (ints .i64 T) ∧
    (∀ b, tv.blk = some b → mb < b) ∧ Way n E s R T

def RInv2 (n s x : Int) (E : List (Int × Int)) (v2 : CV) (mb : Nat) (hC : Heap) (m0 : Nat) (m : Nat) (e : Env) (h' : Heap) : Prop :=
  ∃ (tv : CV) (R T : List Int) (j : Nat), j ≤ E.length ∧ m = E.length - j ∧ T.length + left E R < m0 ∧ e = [(0, .int .i64 n), (2, v2), (7, .mp mb), (8, tv), (9, .int .i64 x), (29, v2), (30, .int .i64 E.length), (31, .int .i64 j)] ∧
    Keep (fun b => hC.length ≤ b) hC h' ∧ MapI h' .i64 mb (setF R) ∧ Roomy h' 1 tv (ints .i64 T) ∧ (∀ b, tv.blk = some b → mb < b) ∧ Mid n E (E.take j) s x R T

theorem reach_spec {h : Heap} {v2 : CV} {E : List (Int × Int)} {n s : Int} (h57 : p.Pg 57 = some S.f57) (q57 : p.pr 57 = none) (h56 : p.Pg 56 = some S.f56) (q56 : p.pr 56 = none)
    (r2 : Read h 2 v2 (pairs E)) (hE : E.length ≤ big) :
    WF p 57 [.int .i64 n, .int .i64 s, v2] h fun r h' => ∃ mb R, r = .mp mb ∧ MapI h' .i64 mb (setF R) ∧ (∀ k, k ∈ R ↔ Plus n E s k) ∧ Keep NoneOf h h' := by
  refine WF_of h57 q57 ?_
  show W p S.b57 _ _ (retQ [.t 6] _)
  unfold S.b57
  have hEE : (E.length : Int) ≤ 4294967296 := by simp [big] at hE; omega
  have kfin : ∀ h' : Heap, Keep (fun b => h.length ≤ b) h h' → Keep NoneOf h h' := fun h' k => k.mono fun i hi e => by omega
  have rkeep : ∀ h' : Heap, Keep (fun b => h.length ≤ b) h h' → Read h' 2 v2 (pairs E) := fun h' k => r2.keep (kfin h' k) fun _ _ => id
  simp [fillC, CV.cells, splice]
  refine W_loop2 (RInv n s E v2 h.length h) ?_ (1 + left E []) ⟨_, [], [s], rfl, by have := left_le (E := E) (R := []); omega, rfl, Keep.app _ _ _, ?_, ?_, ?_, Way.start n E s⟩
  · rintro m e h1 ⟨tv, R, T, rfl, hm, rfl, k1, m1, t1, b1, w1⟩
    have nT := readI_len t1.read
    rcases List.eq_nil_or_concat T with rfl | ⟨T0, x, rfl⟩
    · simp [nT]
      exact ⟨R, m1, fun k => w1.done k, kfin _ k1⟩
    · rw [List.concat_eq_append] at *
      have hlen : (T0 ++ [x]).length = T0.length + 1 := by simp
      have hTb : T0.length + 1 ≤ E.length + 1 := by omega
      have hpos : (0 : Int) < ((T0 ++ [x]).length : Int) := by rw [hlen]; omega
      have hwm : IntKind.i64.wrap (((T0 ++ [x]).length : Int) - 1) = (T0.length : Int) := by rw [hlen, w64 (by omega) (by omega)]; omega
      obtain ⟨bt, ot, c1, c2, c3⟩ := readI_idx (k' := .i64) t1.read (i := T0.length) (by simp)
      simp only [List.getElem_concat_length] at c3
      obtain ⟨tv', d1, d2, d3⟩ := t1.cut (by decide) (k := .i64) (m := T0.length) (by simp)
      have hT0 : (ints .i64 (T0 ++ [x])).take (T0.length * 1) = ints .i64 T0 := by simp [ints]
      rw [hT0] at d2
      have nE : lenV h1 .sl v2 = some (.int .i64 (E.length : Int)) := by
        have := (rkeep _ k1).len (by decide); rw [pairs_length] at this; simpa using this
      generalize hLL : ((T0 ++ [x]).length : Int) = LL at *
      obtain ⟨m0, hm0⟩ : ∃ m0, m0 = (T0 ++ [x]).length + left E R := ⟨_, rfl⟩
      rw [← hm0] at hm ⊢
      simp [nT, hpos, hwm, c1, c3, d1, nE]
      refine W_loop (RInv2 n s x E v2 h.length h m0) ?_ E.length ⟨tv', R, T0, 0, by omega, by omega, by omega, rfl, k1, m1, d2, fun b hb => b1 b (d3 ▸ hb), w1.pop⟩
      rintro m e h2 ⟨tv2, R2, T2, j, hj, rfl, hm2, rfl, k2, m2, t2, b2, w2⟩
      by_cases hjE : j = E.length
      · subst hjE
        rw [List.take_length] at w2
        simp
        exact ⟨_, hm2, tv2, R2, T2, rfl, by omega, by simp, k2, m2, t2, b2, w2.over⟩
      · have hjlt : j < E.length := by omega
        have hjlt' : (j : Int) < E.length := by omega
        obtain ⟨a, b, hab⟩ : ∃ a b, E[j] = (a, b) := ⟨E[j].1, E[j].2, rfl⟩
        obtain ⟨be, oe, y1, y2, y3⟩ := (rkeep _ k2).row (i := j) (k := .i64) (by rw [pairs_length]; omega) (by decide)
        rw [pairs_row hjlt, hab] at y3
        have hst : storeAt (h2 ++ [.arr [.int .i64 0, .int .i64 0] .tight]) h2.length 0 [.int .i64 a, .int .i64 b] = some (h2 ++ [.arr [.int .i64 a, .int .i64 b] .tight]) := by
          simp [storeAt, splice, CV.scalar]
        have hw : IntKind.i64.wrap ((j : Int) + 1) = ((j + 1 : Nat) : Int) := by rw [w64 (by omega) (by omega)]; omega
        have hmem : (a, b) ∈ E := by rw [← hab]; exact List.getElem_mem hjlt
        have kap : Keep NoneOf h2 (h2 ++ [.arr [.int .i64 a, .int .i64 b] .tight]) := Keep.app _ _ _
        have gl : loadAt (h2 ++ [.arr [.int .i64 a, .int .i64 b] .tight]) h2.length 0 (some 2) = some (.agg [.int .i64 a, .int .i64 b]) := by simp [loadAt]
        simp [hjlt', y1, y3, CV.cells, fits, hst, gl]
        refine (in_spec h56 q56).mono ?_
        rintro r h5 ⟨rfl, k5⟩
        have k25 : Keep NoneOf h2 h5 := kap.trans k5
        have m5 := m2.keep k25 id
        have t5 := t2.keep k25 fun _ _ => id
        have e5 : h5[h2.length]? = some (.arr [.int .i64 a, .int .i64 b] .tight) := k5.at get_new id
        have l5 := ld e5
        have kk5 : Keep (fun b => h.length ≤ b) h h5 := k2.then k25 fun _ _ e => e.elim
        have htake : E.take (j + 1) = E.take j ++ [(a, b)] := by rw [← hab]; exact (List.take_append_getElem hjlt).symm
        have lk := m5.look false (.bool false) b
        have stay : (okI n (a, b) → a = x → b ∈ R2) → ∃ m', m' < E.length - j ∧ RInv2 n s x E v2 h.length h m0 m' [(0, .int .i64 n), (2, v2), (7, .mp h.length), (8, tv2), (9, .int .i64 x), (29, v2), (30, .int .i64 E.length), (31, .int .i64 ((j + 1 : Nat) : Int))] h5 := by
          intro hno
          refine ⟨E.length - (j + 1), by omega, tv2, R2, T2, j + 1, by omega, rfl, hm2, rfl, kk5, m5, t5, b2, ?_⟩
          rw [htake]; exact w2.skip hno
        by_cases hok : okI n (a, b)
        · have hdec : decide (0 ≤ a ∧ a < n ∧ 0 ≤ b ∧ b < n) = true := decide_eq_true hok
          rw [hdec]
          by_cases hax : a = x
          · subst hax
            by_cases hbR : b ∈ R2
            · simp [setF, hbR] at lk
              simp [l5, lk, hw]
              exact stay fun _ _ => hbR
            · simp [setF, hbR] at lk
              obtain ⟨h6, u1, u2, u3, u4⟩ := m5.up (.bool true) b
              rw [setF_cons] at u2
              have l6 := ld (u3.at e5 (by have := m2.lt; omega))
              have t6 := t5.keep u3 fun b' hb' e => by have := b2 b' hb'; omega
              have kap6 : Keep NoneOf h6 (h6 ++ [.arr [.int .i64 b] .tight]) := Keep.app _ _ _
              simp [l5, lk, u1, l6, fillC, CV.cells, splice, spread, cellsAt]
              have hcap : T2.length ≤ E.length + 1 := by omega
              refine OV_room (n := T2.length) (t6.keep kap6 fun _ _ => id) (by simp) rfl rfl (by simp [big] at hE ⊢; have := left_cons hmem hbR; omega) (by decide) (by decide) ?_
              intro tv3 h7 t7 k7 b7
              simp [hw]
              have kmb : Keep (· = h.length) h5 h6 := u3
              have k67 : Keep (fun b => h.length < b) h6 h7 := (kap6.mono fun _ _ e => e.elim).then k7 fun i hi e => b2 i e
              refine ⟨E.length - (j + 1), by omega, tv3, b :: R2, T2 ++ [b], j + 1, by omega, rfl, ?_, rfl, ?_, ?_, ?_, ?_, ?_⟩
              · have := left_cons hmem hbR
                simp; omega
              · exact (kk5.then u3 fun i hi e => by omega).then k67 fun i hi e => by omega
              · exact u2.keep k67 (by omega)
              · have : ints .i64 (T2 ++ [b]) = ints .i64 T2 ++ [.int .i64 b] := by simp [ints]
                rw [this]; exact t7
              · intro b' hb'
                rcases b7 b' hb' with q | q
                · exact b2 b' q
                · have := u2.lt; simp at q; omega
              · rw [htake]; exact w2.push hmem hok
          · simp [l5, hax, hw]
            exact stay fun _ h => absurd h hax
        · have hdec : decide (0 ≤ a ∧ a < n ∧ 0 ≤ b ∧ b < n) = false := decide_eq_false hok
          rw [hdec]
          simp [hw]
          exact stay fun h => absurd h hok
  · have := (MapI.new (h := h) (kd := .i64)).keep (S := NoneOf) (h' := (h ++ [.map [] 0]) ++ [.arr [.int .i64 s] .tight]) (Keep.app _ _ _) id
    have hf : setF [] = fun _ => none := by funext k; simp [setF]
    rw [hf]; simpa using this
  · refine .inr ⟨h.length + 1, 0, 1, 1, [.int .i64 s], .tight, rfl, rfl, Nat.le_refl _, .inl rfl, ?_, by simp, rfl⟩
    simp
  · intro b hb; simp [CV.blk] at hb; omega

def OInv (n : Int) (E : List (Int × Int)) (v : CV) (h : Heap) (m : Nat) (e : Env) (h' : Heap) : Prop :=
  ∃ j : Nat, j ≤ E.length ∧ m = E.length - j ∧ e = [(0, .int .i64 n), (1, v), (7, v), (8, .int .i64 E.length), (9, .int .i64 j)] ∧ Keep NoneOf h h' ∧ ∀ x ∈ E.take j, okI n x → ¬ Plus n E x.1 x.1

theorem round_spec {h : Heap} {v : CV} {E : List (Int × Int)} {n : Int} (hpg : p.Pg = S.pg) (q21 : p.pr 21 = none) (q57 : p.pr 57 = none) (q56 : p.pr 56 = none) (r2 : Read h 2 v (pairs E)) (hE : E.length ≤ big) :
    WF p 21 [.int .i64 n, v] h fun r h' => (∃ t, r = .bool t ∧ (t = true ↔ Rounds n E)) ∧ Keep NoneOf h h' := by
  have h57 : p.Pg 57 = some S.f57 := by rw [hpg]; exact S.pg57
  have h56 : p.Pg 56 = some S.f56 := by rw [hpg]; exact S.pg56
  refine WF_of (by rw [hpg]; exact S.pg21) q21 ?_
  show W p S.b21 _ _ (retQ [.t 4] _)
  unfold S.b21
  have hEE : (E.length : Int) ≤ 4294967296 := by simp [big] at hE; omega
  have nE : lenV h .sl v = some (.int .i64 (E.length : Int)) := by
    have := r2.len (by decide); rw [pairs_length] at this; simpa using this
  simp [nE]
  refine W_loop (OInv n E v h) ?_ E.length ⟨0, by omega, by omega, rfl, Keep.refl _ _, by simp⟩
  rintro m e h2 ⟨j, hj, rfl, rfl, k2, hno⟩
  by_cases hjE : j = E.length
  · subst hjE
    rw [List.take_length] at hno
    simp
    exact ⟨fun ⟨e, h1, h2, h3⟩ => hno e h1 h2 h3, k2⟩
  · have hjlt : j < E.length := by omega
    have hjlt' : (j : Int) < E.length := by omega
    obtain ⟨a, b, hab⟩ : ∃ a b, E[j] = (a, b) := ⟨E[j].1, E[j].2, rfl⟩
    obtain ⟨be, oe, y1, y2, y3⟩ := (r2.keep k2 fun _ _ => id).row (i := j) (k := .i64) (by rw [pairs_length]; omega) (by decide)
    rw [pairs_row hjlt, hab] at y3
    have hst : storeAt (h2 ++ [.arr [.int .i64 0, .int .i64 0] .tight]) h2.length 0 [.int .i64 a, .int .i64 b] = some (h2 ++ [.arr [.int .i64 a, .int .i64 b] .tight]) := by
      simp [storeAt, splice, CV.scalar]
    have hw : IntKind.i64.wrap ((j : Int) + 1) = ((j + 1 : Nat) : Int) := by rw [w64 (by omega) (by omega)]; omega
    have hmem : (a, b) ∈ E := by rw [← hab]; exact List.getElem_mem hjlt
    have kap : Keep NoneOf h2 (h2 ++ [.arr [.int .i64 a, .int .i64 b] .tight]) := Keep.app _ _ _
    have gl : loadAt (h2 ++ [.arr [.int .i64 a, .int .i64 b] .tight]) h2.length 0 (some 2) = some (.agg [.int .i64 a, .int .i64 b]) := by simp [loadAt]
    have htake : E.take (j + 1) = E.take j ++ [(a, b)] := by rw [← hab]; exact (List.take_append_getElem hjlt).symm
    simp [hjlt', y1, y3, CV.cells, fits, hst, gl]
    refine (in_spec h56 q56).mono ?_
    rintro r h5 ⟨rfl, k5⟩
    have e5 : h5[h2.length]? = some (.arr [.int .i64 a, .int .i64 b] .tight) := k5.at get_new id
    have l5 := ld e5
    have k25 : Keep NoneOf h h5 := (k2.trans kap).trans k5
    have stay : (okI n (a, b) → ¬ Plus n E a a) → ∀ h6, Keep NoneOf h h6 → ∃ m', m' < E.length - j ∧ OInv n E v h m' [(0, .int .i64 n), (1, v), (7, v), (8, .int .i64 E.length), (9, .int .i64 ((j + 1 : Nat) : Int))] h6 := by
      intro hn h6 k6
      refine ⟨E.length - (j + 1), by omega, j + 1, by omega, rfl, rfl, k6, fun x hx ho => ?_⟩
      rw [htake] at hx
      rcases List.mem_append.1 hx with hx | hx
      · exact hno x hx ho
      · simp at hx; subst hx; exact hn ho
    by_cases hok : okI n (a, b)
    · have hdec : decide (0 ≤ a ∧ a < n ∧ 0 ≤ b ∧ b < n) = true := decide_eq_true hok
      rw [hdec]
      simp [l5]
      refine WO_re (by simp) ?_
      simp
      refine (reach_spec h57 q57 h56 q56 (r2.keep k25 fun _ _ => id) hE).mono ?_
      rintro r h6 ⟨mb, R, rfl, m6, hR, k6⟩
      have l6 := ld (k6.at e5 id)
      have lk := m6.look false (.bool false) a
      refine ⟨fun c => by simp [recheckB, wanted, Env.get, cls, evOp, Opd.ev, l6, withH, CV.eqb], ?_⟩
      by_cases haR : a ∈ R
      · simp [setF, haR] at lk
        simp [lk]
        exact ⟨⟨_, hmem, hok, (hR a).1 haR⟩, k25.trans k6⟩
      · simp [setF, haR] at lk
        simp [lk, hw]
        exact stay (fun _ h => haR ((hR a).2 h)) h6 (k25.trans k6)
    · have hdec : decide (0 ≤ a ∧ a < n ∧ 0 ≤ b ∧ b < n) = false := decide_eq_false hok
      rw [hdec]
      simp
      refine WO_re_f (by simp) ?_
      simp [hw]
      exact stay (fun h => absurd h hok) h5 k25

end Go.Cl
