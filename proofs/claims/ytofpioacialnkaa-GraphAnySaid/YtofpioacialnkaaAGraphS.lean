/-
  Layer 18: what the document's 'Round' comes to; GraphAny.
-/
import Derived.Test.YtofpioacialnkaaAGraphQ
namespace Go.Cl
open Go
set_option linter.unusedSimpArgs false
set_option linter.unusedVariables false
set_option maxHeartbeats 4000000

variable {p : PP}

/-- a row from which the first one goes, to which others come -/
def Que (h : Heap) (v : CV) (l : List CV) : Prop :=
  ∃ b o n c cs st, v = .sl b o n c ∧ l.length = n ∧ n ≤ c ∧ (st = .tight ∨ st = .loose 1) ∧ h[b]? = some (.arr cs st) ∧ o + c = cs.length ∧ l = (cs.drop o).take n

theorem Que.read {h : Heap} {v : CV} {l : List CV} (q : Que h v l) : Read h 1 v l := by
  obtain ⟨b, o, n, c, cs, st, rfl, h1, h2, h3, h4, h5, h6⟩ := q
  exact .inr ⟨b, o, n, c, cs, st, rfl, by omega, h4, by omega, by simpa using h6⟩

theorem Que.keep {S : Nat → Prop} {h h' : Heap} {v : CV} {l : List CV} (q : Que h v l) (k : Keep S h h') (hS : ∀ b, v.blk = some b → ¬ S b) : Que h' v l := by
  obtain ⟨b, o, n, c, cs, st, rfl, h1, h2, h3, h4, h5, h6⟩ := q
  exact ⟨b, o, n, c, cs, st, rfl, h1, h2, h3, k.at h4 (hS b rfl), h5, h6⟩

theorem Que.tail {h : Heap} {v x : CV} {l : List CV} (q : Que h v (x :: l)) {k : IntKind} :
    ∃ v' h', slTail h 1 v (.int k 1) = some (v', h') ∧ Que h' v' l ∧ Keep (fun b => v.blk = some b) h h' ∧ ∀ b, v'.blk = some b → v.blk = some b ∨ h.length ≤ b := by
  obtain ⟨b, o, n, c, cs, st, rfl, h1, h2, h3, h4, h5, h6⟩ := q
  simp only [List.length_cons] at h1
  have hl : l = (cs.drop (o + 1)).take (n - 1) := by
    have := congrArg List.tail h6
    rw [List.tail_cons] at this
    rw [this, ← List.drop_one, List.drop_take, List.drop_drop]
  by_cases hc : 1 < c
  · refine ⟨.sl b (o + 1) (n - 1) (c - 1), h, ?_, ⟨b, o + 1, n - 1, c - 1, cs, st, rfl, by omega, by omega, h3, h4, by omega, hl⟩, Keep.refl _ _, fun b' hb' => .inl hb'⟩
    simp only [slTail]
    rw [if_pos ⟨by omega, by omega, h2⟩, if_pos (by simpa using hc)]
    simp
  · have hn1 : n = 1 := by omega
    have hc1 : c = 1 := by omega
    subst hn1 hc1
    have hst : st ≠ .ro := by rcases h3 with rfl | rfl <;> simp
    have hl0 : l = [] := List.length_eq_zero_iff.1 (by omega)
    refine ⟨.sl h.length 0 0 0, h.set b .dead ++ [.arr [] (.loose 1)], ?_, ⟨h.length, 0, 0, 0, [], .loose 1, rfl, by simp [hl0], Nat.le_refl _, .inr rfl, ?_, rfl, by simp [hl0]⟩, ?_, fun b' hb' => .inr (by simp [CV.blk] at hb'; omega)⟩
    · simp only [slTail]
      rw [if_pos ⟨by omega, by omega, by omega⟩, if_neg (by simp)]
      simp only [h4]
      rw [if_pos ⟨hst, h3, by omega⟩]
    · have : h.length = (h.set b .dead).length := by simp
      rw [this]; exact get_new
    · exact ⟨by simp, fun c' hc' hne => by rw [List.getElem?_append_left (by simpa using hc'), List.getElem?_set_ne (fun e => hne (by simp [CV.blk, e]))]⟩

theorem OV_que {h : Heap} {v y : CV} {l : List CV} {K : CV × Heap → Prop} (q : Que h v l) (hs : y.scalar = true) (hb : l.length ≤ big)
    (kk : ∀ v' h', Que h' v' (l ++ [y]) → Keep (fun b => v.blk = some b) h h' → (∀ b, v'.blk = some b → v.blk = some b ∨ h.length ≤ b) → K (v', h')) : OV (appendTo h 1 v 1 [y]) K := by
  obtain ⟨b, o, n, c, cs, st, rfl, h1, h2, h3, h4, h5, h6⟩ := q
  have hst : st ≠ .ro := by rcases h3 with rfl | rfl <;> simp
  simp only [appendTo]
  rw [if_neg (by simp [hs, big]), if_neg (by omega), if_neg (by omega)]
  by_cases hroom : n + 1 ≤ c
  · rw [if_pos hroom]
    simp only [storeAt, h4]
    rw [if_pos ⟨hst, by simp; omega, by simp [hs]⟩]
    simp only [OV_some]
    refine kk _ _ ⟨b, o, n + 1, c, _, st, rfl, by simp; omega, hroom, h3, get_set_self (lt_of_get h4), ?_, ?_⟩ (Keep.set _ _ rfl) (fun b' hb => .inl hb)
    · rw [splice_set (by omega)]; simp; omega
    · rw [Nat.mul_one, splice_set (by omega)]
      apply List.ext_getElem?
      intro i
      rw [List.getElem?_take]
      by_cases hi : i < n + 1
      · rw [if_pos hi, List.getElem?_drop, List.getElem?_set]
        by_cases hin : i = n
        · subst hin
          rw [if_pos rfl, if_pos (by omega), List.getElem?_append_right (by omega), h1]; simp
        · rw [if_neg (by omega), List.getElem?_append_left (by omega), h6, List.getElem?_take, if_pos (by omega), List.getElem?_drop]
      · rw [if_neg hi, List.getElem?_eq_none (by simp; omega)]
  · rw [if_neg hroom]
    simp only [h4]
    rw [if_pos ⟨hst, h3, by omega, by omega⟩]
    have hkl : (kill h b).length = h.length := by unfold kill; split <;> simp
    simp only [OV_some, Nat.mul_one, ← h6]
    refine kk _ _ ⟨h.length, 0, n + 1, n + 1, l ++ [y], .loose 1, rfl, by simp; omega, Nat.le_refl _, .inr rfl, by rw [← hkl]; exact get_new, by simp; omega, by rw [List.drop_zero, List.take_of_length_le (by simp; omega)]⟩ ?_ (by simp [CV.blk])
    refine ⟨by simp [hkl], fun x hx hne => ?_⟩
    have hcb : b ≠ x := fun e => hne (by simp [CV.blk, e])
    rw [List.getElem?_append_left (by rw [hkl]; exact hx)]
    unfold kill
    split
    · exact List.getElem?_set_ne hcb
    · rfl

/-! ### plain -/

theorem Plus.range {n : Int} {E : List (Int × Int)} {a b : Int} (h : Plus n E a b) : 0 ≤ b ∧ b < n := by
  cases h with
  | one _ h => exact ⟨h.2.2.1, h.2.2.2⟩
  | more _ _ h => exact ⟨h.2.2.1, h.2.2.2⟩

theorem Plus.first {n : Int} {E : List (Int × Int)} {a b : Int} (h : Plus n E a b) : ∃ c, (a, c) ∈ E ∧ okI n (a, c) := by
  induction h with
  | one h1 h2 => exact ⟨_, h1, h2⟩
  | more _ _ _ ih => exact ih

theorem rounds_iff {n : Int} {E : List (Int × Int)} : Rounds n E ↔ ∃ e ∈ E, 0 ≤ e.1 ∧ e.1 < n ∧ Plus n E e.1 e.1 := by
  constructor
  · rintro ⟨e, h1, h2, h3⟩
    exact ⟨e, h1, h2.1, h2.2.1, h3⟩
  · rintro ⟨e, h1, _, _, h3⟩
    obtain ⟨c, h4, h5⟩ := h3.first
    exact ⟨_, h4, h5, h3⟩

theorem Way.popF {n : Int} {E : List (Int × Int)} {s x : Int} {R T : List Int} (w : Way n E s R (x :: T)) : Mid n E [] s x R T where
  sound := w.sound
  todo k hk := w.todo k (by simp [hk])
  self := w.todo x (by simp)
  mine b hb := by simp at hb
  closed k h1 h2 h3 := w.closed k h1 (by simp [h2, h3])

/-! ### the walk -/

def RQ (n s : Int) (i : Nat) (E : List (Int × Int)) (v : CV) (hC : Heap) (m : Nat) (e : Env) (h' : Heap) : Prop :=
  ∃ (nv tv : CV) (R T : List Int), m = T.length + left E R ∧ m ≤ E.length + 1 ∧ e = [(0, .int .i64 n), (1, v), (5, .int .i64 i), (6, nv), (7, tv)] ∧ Keep NoneOf hC h' ∧ Que h' nv (ints .i64 T) ∧ OwnL (.int .i64) h' NoneOf tv R.reverse ∧
    (∀ b, nv.blk = some b → hC.length ≤ b) ∧ (∀ b, tv.blk = some b → hC.length ≤ b) ∧ Apart nv tv ∧ R.length + left E R ≤ E.length ∧ Way n E s R T

def RQ2 (n s x : Int) (i : Nat) (E : List (Int × Int)) (v : CV) (hC : Heap) (m0 : Nat) (m : Nat) (e : Env) (h' : Heap) : Prop :=
  ∃ (nv tv : CV) (R T : List Int) (j : Nat), j ≤ E.length ∧ m = E.length - j ∧ T.length + left E R < m0 ∧ e = [(0, .int .i64 n), (1, v), (5, .int .i64 i), (6, nv), (7, tv), (8, .int .i64 x), (9, .int .i64 j)] ∧ Keep NoneOf hC h' ∧ Que h' nv (ints .i64 T) ∧
    OwnL (.int .i64) h' NoneOf tv R.reverse ∧ (∀ b, nv.blk = some b → hC.length ≤ b) ∧ (∀ b, tv.blk = some b → hC.length ≤ b) ∧ Apart nv tv ∧ R.length + left E R ≤ E.length ∧ Mid n E (E.take j) s x R T

def RO (n : Int) (E : List (Int × Int)) (v : CV) (h : Heap) (m : Nat) (e : Env) (h' : Heap) : Prop :=
  ∃ i : Nat, i ≤ E.length ∧ m = E.length - i ∧ e = [(0, .int .i64 n), (1, v), (5, .int .i64 i)] ∧ Keep NoneOf h h' ∧ ∀ x ∈ E.take i, 0 ≤ x.1 → x.1 < n → ¬ Plus n E x.1 x.1

def RQM (n s : Int) (i : Nat) (E : List (Int × Int)) (v : CV) (h : Heap) (e : Env) (h' : Heap) : Prop :=
  ∃ (tv : CV) (R : List Int), e.get 0 = some (.int .i64 n) ∧ e.get 1 = some v ∧ e.get 5 = some (.int .i64 i) ∧ e.get 7 = some tv ∧ Keep NoneOf h h' ∧ Read h' 1 tv (ints .i64 R.reverse) ∧ R.length ≤ E.length ∧ ∀ k, k ∈ R ↔ Plus n E s k

theorem edge_cells {h : Heap} {v : CV} {E : List (Int × Int)} (r : Read h 2 v (pairs E)) {i : Nat} (hi : i < E.length) {k : IntKind} :
    ∃ b o, idxAddrV 2 v (.int k (i : Int)) = some (.ptr b o) ∧ loadAt h b o none = some (.int .i64 E[i].1) ∧ loadAt h b (o + 1) none = some (.int .i64 E[i].2) := by
  obtain ⟨be, oe, y1, y2, y3⟩ := r.cell (i := i) (k := k) (by rw [pairs_length]; omega) (by decide)
  have z0 := y3 0 (by decide)
  have z1 := y3 1 (by decide)
  have hpr := pairs_row hi
  have q0 : (pairs E)[i * 2 + 0]? = some (.int .i64 E[i].1) := by
    have := congrArg (fun l => l[0]?) hpr
    simpa [List.getElem?_take, List.getElem?_drop] using this
  have q1 : (pairs E)[i * 2 + 1]? = some (.int .i64 E[i].2) := by
    have := congrArg (fun l => l[1]?) hpr
    simpa [List.getElem?_take, List.getElem?_drop] using this
  rw [q0] at z0
  rw [q1] at z1
  exact ⟨be, oe, y1, z0, z1⟩

theorem refRound_spec {h : Heap} {v : CV} {E : List (Int × Int)} {n : Int} (hpg : p.Pg = S.pg) (q22 : p.pr 22 = none) (q58 : p.pr 58 = none) (r2 : Read h 2 v (pairs E)) (hE : E.length ≤ big) :
    WF p 22 [.int .i64 n, v] h fun r h' => (∃ t, r = .bool t ∧ (t = true ↔ Rounds n E)) ∧ Keep NoneOf h h' := by
  have h58 : p.Pg 58 = some S.f58 := by rw [hpg]; exact S.pg58
  refine WF_of (by rw [hpg]; exact S.pg22) q22 ?_
  show W p S.b22 _ _ (retQ [.t 4] _)
  unfold S.b22
  have hEE : (E.length : Int) ≤ 4294967296 := by simp [big] at hE; omega
  simp
  refine W_loop (RO n E v h) ?_ E.length ⟨0, by omega, by omega, rfl, Keep.refl _ _, by simp⟩
  rintro m e h1 ⟨i, hi, rfl, rfl, k1, hno⟩
  have nlen : ∀ h', Keep NoneOf h h' → lenV h' .sl v = some (.int .i64 (E.length : Int)) := fun h' k => by
    have := (r2.keep k fun _ _ => id).len (by decide)
    rw [pairs_length] at this; simpa using this
  have nE := nlen h1 k1
  by_cases hiE : i = E.length
  · subst hiE
    rw [List.take_length] at hno
    simp [nE]
    exact ⟨fun hr => by
      obtain ⟨e, h2, h3, h4, h5⟩ := rounds_iff.1 hr
      exact hno e h2 h3 h4 h5, k1⟩
  · have hlt : i < E.length := by omega
    have hlt' : (i : Int) < E.length := by omega
    have hwi : IntKind.i64.wrap ((i : Int) + 1) = ((i + 1 : Nat) : Int) := by rw [w64 (by omega) (by omega)]; omega
    obtain ⟨b, o, y1, y2, y3⟩ := edge_cells (k := .i64) (r2.keep k1 fun _ _ => id) hlt
    have htake : E.take (i + 1) = E.take i ++ [E[i]] := (List.take_append_getElem hlt).symm
    obtain ⟨s, hs⟩ : ∃ s, s = E[i].1 := ⟨_, rfl⟩
    rw [← hs] at y2
    have next : ∀ h2, Keep NoneOf h h2 → (0 ≤ s → s < n → ¬ Plus n E s s) → ∃ m', m' < E.length - i ∧ RO n E v h m' [(0, .int .i64 n), (1, v), (5, .int .i64 ((i + 1 : Nat) : Int))] h2 := by
      intro h2 k2 hn
      refine ⟨E.length - (i + 1), by omega, i + 1, by omega, rfl, rfl, k2, fun x hx => ?_⟩
      rw [htake] at hx
      rcases List.mem_append.1 hx with hx | hx
      · exact hno x hx
      · simp at hx; subst hx; rw [← hs]; exact hn
    by_cases c1 : s < 0
    · simp [nE, hlt', y1, y2, c1, hwi]
      exact next h1 k1 fun h0 => by omega
    by_cases c2 : n ≤ s
    · simp [nE, hlt', y1, y2, c1, c2, hwi]
      exact next h1 k1 fun _ h0 => by omega
    simp [nE, hlt', y1, y2, c1, c2, fillC, splice]
    refine W_toB (RQM n s i E v h) ?_ ?_
    · refine W_loop2 (RQ n s i E v h) ?_ (1 + left E []) ⟨_, .nils, [], [s], rfl, by have := left_le (E := E) (R := []); omega, by simp, k1.trans (Keep.app _ _ _), ⟨h1.length, 0, 1, 1, [.int .i64 s], .tight, rfl, rfl, Nat.le_refl _, .inl rfl, by simp, rfl, rfl⟩, OwnL.nil,
        fun b hb => by have := k1.len; simp [CV.blk] at hb; omega, by simp [CV.blk], by simp [Apart, CV.blk], by have := left_le (E := E) (R := []); simpa using this, Way.start n E s⟩
      rintro m e h2 ⟨nv, tv, R, T, rfl, hm, rfl, k2, qT, oR, hnv, htv, ap, hR, w2⟩
      have nT := readI_len qT.read
      cases T with
      | nil =>
        simp [nT]
        exact ⟨tv, R, by simp, by simp, by simp, by simp, k2, oR.sl.ints, by omega, fun k => w2.done k⟩
      | cons x T =>
        obtain ⟨bt, ot, x1, x2, x3⟩ := readI_idx (k' := .i64) qT.read (i := 0) (by simp)
        simp only [List.getElem_cons_zero] at x3
        obtain ⟨nv', h3, z1, z2, z3, z4⟩ := Que.tail (x := .int .i64 x) (l := ints .i64 T) (by simpa [ints] using qT) (k := .i64)
        have hpos : (0 : Int) < (((x :: T).length : Nat) : Int) := by simp only [List.length_cons]; omega
        simp only [Int.natCast_zero] at x1
        obtain ⟨m0, hm0⟩ : ∃ m0, m0 = (x :: T).length + left E R := ⟨_, rfl⟩
        obtain ⟨LL, hLL⟩ : ∃ LL : Int, LL = (((x :: T).length : Nat) : Int) := ⟨_, rfl⟩
        rw [← hLL] at nT hpos
        rw [← hm0] at hm ⊢
        simp [nT, hpos, x1, x3, z1]
        have hl2 := k2.len
        have k23 : Keep NoneOf h h3 := k2.then z3 fun b hb e => by have := hnv b e; omega
        have hnv' : ∀ b, nv'.blk = some b → h.length ≤ b := fun b hb => by
          rcases z4 b hb with q | q
          · exact hnv b q
          · omega
        have oR3 := oR.keep z3 (fun b hb e => ap b e hb) fun _ hb => hb.elim
        have ap' : Apart nv' tv := fun b hb ht => by
          rcases z4 b hb with q | q
          · exact ap b q ht
          · have := oR.blk b ht; omega
        refine W_loop2 (RQ2 n s x i E v h m0) ?_ E.length ⟨nv', tv, R, T, 0, by omega, by omega, by rw [hm0]; simp, by simp, k23, z2, oR3, hnv', htv, ap', hR, w2.popF⟩
        rintro m e h4 ⟨nv, tv, R, T, j, hj, rfl, hm2, rfl, k4, qT, oR, hnv, htv, ap, hR, w4⟩
        have nE4 := nlen h4 k4
        by_cases hjE : j = E.length
        · subst hjE
          rw [List.take_length] at w4
          simp [nE4]
          exact ⟨_, hm2, nv, tv, R, T, rfl, by omega, by simp, k4, qT, oR, hnv, htv, ap, hR, w4.over⟩
        · have hjlt : j < E.length := by omega
          have hjlt' : (j : Int) < E.length := by omega
          have hwj : IntKind.i64.wrap ((j : Int) + 1) = ((j + 1 : Nat) : Int) := by rw [w64 (by omega) (by omega)]; omega
          obtain ⟨bj, oj, u1, u2, u3⟩ := edge_cells (k := .i64) (r2.keep k4 fun _ _ => id) hjlt
          obtain ⟨a, b, hab⟩ : ∃ a b, E[j] = (a, b) := ⟨E[j].1, E[j].2, rfl⟩
          rw [hab] at u2 u3
          simp only at u2 u3
          have hmem : (a, b) ∈ E := by rw [← hab]; exact List.getElem_mem hjlt
          have htk : E.take (j + 1) = E.take j ++ [(a, b)] := by rw [← hab]; exact (List.take_append_getElem hjlt).symm
          have xr : 0 ≤ x ∧ x < n := by
            rcases w4.self with hh | hh
            · subst hh; omega
            · exact (w4.sound x hh).range
          have stay : ∀ h5, Keep NoneOf h4 h5 → (okI n (a, b) → a = x → b ∈ R) → ∃ m', m' < E.length - j ∧ RQ2 n s x i E v h m0 m' [(0, .int .i64 n), (1, v), (5, .int .i64 i), (6, nv), (7, tv), (8, .int .i64 x), (9, .int .i64 ((j + 1 : Nat) : Int))] h5 := by
            intro h5 k5 hn
            exact ⟨E.length - (j + 1), by omega, nv, tv, R, T, j + 1, by omega, rfl, hm2, rfl, k4.trans k5, qT.keep k5 fun _ _ => id, oR.on k5, hnv, htv, ap, hR, by rw [htk]; exact w4.skip hn⟩
          by_cases d1 : a = x
          case neg =>
            simp [nE4, hjlt', u1, u2, u3, d1, hwj]
            exact stay h4 (Keep.refl _ _) fun _ e => absurd e d1
          subst d1
          by_cases d2 : b < 0
          case pos =>
            simp [nE4, hjlt', u1, u2, u3, d2, hwj]
            exact stay h4 (Keep.refl _ _) fun ho => by have := ho.2.2.1; simp only at this; omega
          by_cases d3 : n ≤ b
          case pos =>
            simp [nE4, hjlt', u1, u2, u3, d2, d3, hwj]
            exact stay h4 (Keep.refl _ _) fun ho => by have := ho.2.2.2; simp only at this; omega
          have hok : okI n (a, b) := ⟨by simp only; omega, by simp only; omega, by simp only; omega, by simp only; omega⟩
          simp [nE4, hjlt', u1, u2, u3, d2, d3]
          refine (among_spec h58 q58 oR.sl.ints (by simp; omega)).mono ?_
          rintro r h5 ⟨rfl, rfl⟩
          by_cases d4 : b ∈ R
          · simp [d4, hwj]
            exact stay _ (Keep.refl _ _) fun _ _ => d4
          · simp [d4, fillC, splice, spread, cellsAt]
            have kap : ∀ (h : Heap) g, Keep NoneOf h (h ++ g) := fun h g => Keep.app _ _ _
            refine OV_push (e := .int .i64) (x := b) (oR.on (kap h5 _)) rfl (fun _ hb => hb.elim) (by simp; omega) (by decide) ?_
            intro tv2 h6 o6 k6 hb6
            have hl4 := k4.len
            have q6 := (qT.keep (kap h5 [.arr [.int .i64 b] .tight]) fun _ _ => id).keep k6 fun b' hb' e => ap b' hb' e
            simp [fillC, splice, spread, cellsAt]
            have hc := left_cons hmem d4
            refine OV_que (q6.keep (kap h6 _) fun _ _ => id) rfl (by simp [big] at hE ⊢; omega) ?_
            intro nv2 h7 q7 k7 hb7
            simp [hwj]
            have htv2 : ∀ b', tv2.blk = some b' → h.length ≤ b' := fun b' hb' => by
              rcases hb6 b' hb' with q | q
              · exact htv b' q
              · simp at q; omega
            have hnv2 : ∀ b', nv2.blk = some b' → h.length ≤ b' := fun b' hb' => by
              rcases hb7 b' hb' with q | q
              · exact hnv b' q
              · have := k6.len; simp only [List.length_append] at this; simp at q; omega
            have qlt : ∀ b', nv.blk = some b' → b' < h5.length := fun b' hb' => qT.read.blk_lt b' hb'
            have tlt : ∀ b', tv2.blk = some b' → b' < h6.length := o6.blk
            have ap67 : ∀ b', tv2.blk = some b' → nv.blk ≠ some b' := fun b' ht hn => by
              rcases hb6 b' ht with q | q
              · exact ap b' hn q
              · have := qlt b' hn; simp at q; omega
            refine ⟨E.length - (j + 1), by omega, nv2, tv2, b :: R, T ++ [b], j + 1, by omega, rfl, ?_, by simp, ?_, by simpa [ints_append, ints] using q7, ?_, hnv2, htv2, ?_, ?_, ?_⟩
            · simp; omega
            · exact (((k4.trans (kap h5 _)).then k6 fun b' hb' e => by have := htv b' e; omega).trans (kap h6 _)).then k7 fun b' hb' e => by have := hnv b' e; omega
            · have := (o6.on (kap h6 [.arr [.int .i64 b] .tight])).keep k7 (fun b' hb' e => ap67 b' hb' e) fun _ hb => hb.elim
              simpa using this
            · intro b' hb' ht
              rcases hb7 b' hb' with q | q
              · exact ap67 b' ht q
              · have := tlt b' ht; simp at q; omega
            · simp; omega
            · rw [htk]; exact w4.push hmem hok
    · rintro e h2 ⟨tv, R, e0, e1, e5, e7, k2, rR, hRl, hR⟩
      obtain ⟨b2, o2, y1', y2', y3'⟩ := edge_cells (k := .i64) (r2.keep k2 fun _ _ => id) hlt
      rw [← hs] at y2'
      rw [W_seq]
      rw [W_ops]
      simp [e0, e1, e5, e7, y1', y2']
      refine (among_spec h58 q58 rR (by simp; omega)).mono ?_
      rintro r h3 ⟨rfl, rfl⟩
      by_cases hsR : s ∈ R
      · simp [hsR]
        exact ⟨rounds_iff.2 ⟨E[i], List.getElem_mem hlt, by rw [← hs]; omega, by rw [← hs]; omega, by rw [← hs]; exact (hR s).1 hsR⟩, k2⟩
      · simp [hsR, hwi]
        exact next _ k2 fun _ _ hp => hsR ((hR s).2 hp)

theorem graphAny_law (hpg : p.Pg = S.pg) (hpr : p.pr = addKnown [16] noPr) {h : Heap} {v0 v1 v2 : CV} {base least : List Int} {E : List (Int × Int)} {n : Int} (r0 : Read h 1 v0 (ints .i64 base)) (r1 : Read h 1 v1 (ints .i64 least)) (r2 : Read h 2 v2 (pairs E)) :
    WF p 15 [v0, v1, v2, .int .i64 n] h fun r _ => r = .bool true := by
  have q : ∀ K, K ≠ 16 → p.pr K = none := by
    intro K hK
    rw [hpr]
    show (match [16].contains K with | true => _ | false => noPr K) = none
    have : [16].contains K = false := by simp [hK]
    rw [this]; rfl
  have pg : ∀ K sf, S.pg K = some sf → p.Pg K = some sf := fun K sf e => by rw [hpg]; exact e
  refine WF_of (pg 15 _ S.pg15) (q 15 (by decide)) ?_
  show W p S.b15 _ _ (retQ [.t 8] _)
  unfold S.b15
  have n0 := readI_len r0
  have n1 := readI_len r1
  have n2 : lenV h .sl v2 = some (.int .i64 (E.length : Int)) := by
    have := r2.len (by decide); rw [pairs_length] at this; simpa using this
  simp
  refine WF_known hpr rfl ?_
  by_cases g1 : 40 < (base.length : Int)
  · simp [n0, g1]
  by_cases g2 : 60 < (least.length : Int)
  · simp [n0, n1, g1, g2]
  by_cases g3 : 60 < (E.length : Int)
  · simp [n0, n1, n2, g1, g2, g3]
  simp [n0, n1, n2, g1, g2, g3]
  have hb : base.length ≤ big := by simp [big]; omega
  have hE : E.length ≤ big := by simp [big]; omega
  refine (prios_spec (pg 17 _ S.pg17) (q 17 (by decide)) (pg 55 _ S.pg55) (q 55 (by decide)) (pg 56 _ S.pg56) (q 56 (by decide)) r0 r1 r2 hb hE).mono ?_
  rintro av h1 ⟨A, oA, hA, k1, _⟩
  refine (of18_spec (pg 18 _ S.pg18) (q 18 (by decide)) (r2.keep k1 fun _ _ => id) hE).mono ?_
  rintro ev h2 ⟨k2, e2⟩
  have k12 : Keep NoneOf h h2 := Keep.trans k1 k2
  try simp
  refine (refPrios_spec (pg 19 _ S.pg19) (q 19 (by decide)) (r0.keep k12 fun _ _ => id) (r1.keep k12 fun _ _ => id) e2 hb hE).mono ?_
  rintro bv h3 ⟨B, oB, hB, k3, _⟩
  have hAB := hA.unique hB
  subst hAB
  have hAl : A.length = base.length := by have := hA.1.le.1; simp at this; exact this.symm
  try simp
  refine (ints_spec (pg 20 _ S.pg20) (q 20 (by decide)) ((oA.keep k2 fun _ _ => id).keep k3 fun _ _ => id).read oB.read (by omega)).mono ?_
  rintro r h4 ⟨rfl, rfl⟩
  have k3' := k12.trans k3
  try simp
  refine (round_spec hpg (q 21 (by decide)) (q 57 (by decide)) (q 56 (by decide)) (r2.keep k3' fun _ _ => id) hE).mono ?_
  rintro r h5 ⟨⟨t, rfl, ht⟩, k5⟩
  try simp
  refine (of18_spec (pg 18 _ S.pg18) (q 18 (by decide)) ((r2.keep k3' fun _ _ => id).keep k5 fun _ _ => id) hE).mono ?_
  rintro ev2 h6 ⟨k6, e6⟩
  try simp
  refine (refRound_spec hpg (q 22 (by decide)) (q 58 (by decide)) e6 hE).mono ?_
  rintro r h7 ⟨⟨t2, rfl, ht2⟩, k7⟩
  have : t = t2 := by
    cases t <;> cases t2 <;> simp_all
  subst this
  try simp

end Go.Cl
