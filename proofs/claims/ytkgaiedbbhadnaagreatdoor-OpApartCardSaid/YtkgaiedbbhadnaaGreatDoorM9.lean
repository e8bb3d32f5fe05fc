/-
  Texts laid together: AOpU AOpV AOpW AOpZ AOpZM AOpA.
-/
import Derived.Test.YtkgaiedbbhadnaaGreatDoorM8
import Derived.Test.YtkgaiedbbhadnaaGreatDoorM5

namespace Go.Cl
open Go
set_option linter.unusedSimpArgs false
set_option linter.unusedVariables false
set_option maxHeartbeats 1000000

variable {p : PP}

theorem refOpWaits_spec (lp : LP p) {h : Heap} {c : List CV} {x : OpV} {P : Nat → Prop} (r0 : opC.rep h P c x) : WF p 241 [.agg c] h fun r h' => r = .bool (waitsP x) ∧ Keep NoneOf h h' := by
  obtain ⟨cv, rfl, s0⟩ := r0
  refine WF_of (by rw [lp.pg]; exact S.pg241) (lp.no ⟨rfl, rfl⟩) ?_
  show W p S.b241 _ _ (retQ [.t 2] _)
  unfold S.b241 waitsP isWait
  obtain ⟨a1, a2, a3, a4, a5⟩ := x
  have kap : ∀ g, Keep NoneOf h (h ++ g) := fun g => Keep.app _ _ _
  by_cases h4 : a1 = 4
  · subst h4
    by_cases hw : a4 = 0
    all_goals simp [CV.cells, one0, hw]; exact kap _
  by_cases h5 : a1 = 5
  · subst h5
    by_cases hw : a4 = 0
    all_goals simp [CV.cells, one0, hw]; exact kap _
  by_cases h7 : a1 = 7
  · subst h7
    by_cases hw : a4 = 0
    all_goals simp [CV.cells, one0, hw]; exact kap _
  · simp [CV.cells, one0, h4, h5, h7]; exact kap _

structure RcH (h : Heap) (c : List CV) (h' : Heap) : Prop where
  k : Keep NoneOf h h'
  g : h'[h.length]? = some (.arr c .tight)

def RcM (h : Heap) (c : List CV) (x : OpV) (e : Env) (h' : Heap) : Prop :=
  (∃ r, e = (1, .ptr h.length 0) :: (4, .int .i64 (leastOf x.kind)) :: (5, .int .i64 (mostOf x.kind)) :: r) ∧ RcH h c h' ∧ 1 ≤ x.kind ∧ x.kind ≤ 9 ∧ ¬ ((x.kind ≠ 4 ∧ x.v ≠ 0) ∨ (isWait x.kind = false ∧ x.wait ≠ 0) ∨ (x.kind ≠ 7 ∧ x.cases ≠ []))

theorem check_bad {x : OpV} (h1 : 1 ≤ x.kind) (h9 : x.kind ≤ 9) (h : (x.kind ≠ 4 ∧ x.v ≠ 0) ∨ (isWait x.kind = false ∧ x.wait ≠ 0) ∨ (x.kind ≠ 7 ∧ x.cases ≠ [])) : opCheckP x = 1 := by
  unfold opCheckP
  rw [if_neg (by omega)]
  split
  · rfl
  · rename_i q1
    split
    · rfl
    · rename_i q2
      rcases h with h | h | h
      · exact absurd (.inr (.inr h)) q1
      · exact absurd (.inl h) q2
      · rw [if_neg h.1, if_pos h.2]

theorem check_good {x : OpV} (h1 : 1 ≤ x.kind) (h9 : x.kind ≤ 9) (h : ¬ ((x.kind ≠ 4 ∧ x.v ≠ 0) ∨ (isWait x.kind = false ∧ x.wait ≠ 0) ∨ (x.kind ≠ 7 ∧ x.cases ≠ []))) :
    opCheckP x = if x.n < leastOf x.kind ∨ mostOf x.kind < x.n ∨ x.wait < -1 ∨ 1000 < x.wait then 1 else if x.kind = 7 then casesP x.cases else 0 := by
  unfold opCheckP
  rw [if_neg (by omega)]
  by_cases q1 : x.n < leastOf x.kind ∨ mostOf x.kind < x.n ∨ (x.kind ≠ 4 ∧ x.v ≠ 0)
  · rw [if_pos q1, if_pos]
    rcases q1 with q | q | q
    · exact .inl q
    · exact .inr (.inl q)
    · exact absurd (.inl q) h
  · rw [if_neg q1]
    by_cases q2 : (isWait x.kind = false ∧ x.wait ≠ 0) ∨ x.wait < -1 ∨ 1000 < x.wait
    · rw [if_pos q2, if_pos]
      rcases q2 with q | q | q
      · exact absurd (.inr (.inl q)) h
      · exact .inr (.inr (.inl q))
      · exact .inr (.inr (.inr q))
    · have q3 : ¬ (x.n < leastOf x.kind ∨ mostOf x.kind < x.n ∨ x.wait < -1 ∨ 1000 < x.wait) := by
        rintro (q | q | q | q)
        · exact q1 (.inl q)
        · exact q1 (.inr (.inl q))
        · exact q2 (.inr (.inl q))
        · exact q2 (.inr (.inr q))
      rw [if_neg q2, if_neg q3]
      by_cases q7 : x.kind = 7
      · rw [if_pos q7, if_pos q7]
      · rw [if_neg q7, if_neg q7, if_neg fun hc => h (.inr (.inr ⟨q7, hc⟩))]

theorem refCheck_head (lp : LP p) {h : Heap} {c : List CV} {x : OpV} {P : Nat → Prop} {K : CV → Heap → Prop} (r0 : opC.rep h P c x) (kk : ∀ h', Keep NoneOf h h' → K (.int .i64 (opCheckP x)) h') :
    W p (front 7 S.b240) [(0, .agg c)] h (midQ (RcM h c x) (retQ [.t 2] K)) := by
  obtain ⟨cv, hC, s0⟩ := r0
  unfold S.b240
  simp only [front]
  have c0 : c[0]? = some (.int .i64 x.kind) := by subst hC; rfl
  have c1 : c[1]? = some (.int .i64 x.n) := by subst hC; rfl
  have c2 : c[2]? = some (.int .i64 x.v) := by subst hC; rfl
  have c3 : c[3]? = some (.int .i64 x.wait) := by subst hC; rfl
  have c4 : c[4]? = some cv := by subst hC; rfl
  have kH : Keep NoneOf h (h ++ [.arr c .tight]) := Keep.app _ _ _
  have gH : (h ++ [Obj.arr c .tight])[h.length]? = some (.arr c .tight) := by simp
  have l0 := ld gH
  have sH := s0.on kH
  have nH := sH.len (by decide)
  by_cases k0 : x.kind < 1
  · have : opCheckP x = 3 := by unfold opCheckP; rw [if_pos (.inl k0)]
    rw [this] at kk
    simp [CV.cells, l0, c0, k0]
    exact kk _ kH
  by_cases k9 : 9 < x.kind
  · have : opCheckP x = 3 := by unfold opCheckP; rw [if_pos (.inr k9)]
    rw [this] at kk
    simp [CV.cells, l0, c0, k0, k9]
    exact kk _ kH
  clear hC
  simp [CV.cells, l0, c0, k0, k9]
  generalize h ++ [Obj.arr c .tight] = H at *
  refine WO_cut (fun e' => e'.get 1 = some (.ptr h.length 0) ∧ e'.get 3 = some (.bool (isWait x.kind))) ?_ ?_
  · by_cases h4 : x.kind = 4
    · simp [h4, isWait]
    by_cases h5 : x.kind = 5
    · simp [h4, h5, isWait, l0, c0]
    by_cases h7 : x.kind = 7
    all_goals simp [h4, h5, h7, isWait, l0, c0]
  rintro e' ⟨q1, q3⟩
  simp [q1, q3, l0, c0]
  refine WO_cut (fun e' => e'.get 1 = some (.ptr h.length 0) ∧ e'.get 57 = some (.bool (decide ((x.kind ≠ 4 ∧ x.v ≠ 0) ∨ (isWait x.kind = false ∧ x.wait ≠ 0) ∨ (x.kind ≠ 7 ∧ x.cases ≠ []))))) ?_ ?_
  · have h7c : (x.cases = [] ∧ x.cases.length = 0) ∨ (x.cases ≠ [] ∧ 0 < x.cases.length) := by
      cases hx : x.cases <;> simp
    by_cases h4 : x.kind = 4
    · have hw : isWait x.kind = true := by simp [isWait, h4]
      rw [hw]
      rcases h7c with ⟨e1, e2⟩ | ⟨e1, e2⟩ <;> simp [h4, l0, c0, c2, c3, c4, nH, e1, e2]
    by_cases hv : x.v = 0
    · cases hw : isWait x.kind with
      | true =>
        by_cases h7 : x.kind = 7
        · simp [h4, h7, hv, l0, c0, c2, c3, c4, nH]
        · rcases h7c with ⟨e1, e2⟩ | ⟨e1, e2⟩ <;> simp [h4, h7, hv, l0, c0, c2, c3, c4, nH, e1, e2]
      | false =>
        have h7 : x.kind ≠ 7 := by rintro h7; simp [isWait, h7] at hw
        by_cases h0 : x.wait = 0
        · rcases h7c with ⟨e1, e2⟩ | ⟨e1, e2⟩ <;> simp [h4, h7, hv, h0, l0, c0, c2, c3, c4, nH, e1, e2]
        · simp [h4, h7, hv, h0, l0, c0, c2, c3, c4, nH]
    · simp [h4, hv, l0, c0, c2, c3, c4, nH]
  clear q1 q3 e'
  rintro e' ⟨q1, q3⟩
  by_cases hb : (x.kind ≠ 4 ∧ x.v ≠ 0) ∨ (isWait x.kind = false ∧ x.wait ≠ 0) ∨ (x.kind ≠ 7 ∧ x.cases ≠ [])
  · rw [decide_eq_true hb] at q3
    rw [check_bad (by omega) (by omega) hb] at kk
    simp [q1, q3]
    exact kk _ kH
  · rw [decide_eq_false hb] at q3
    have fin : ∀ r, RcM h c x ((1, .ptr h.length 0) :: (4, .int .i64 (leastOf x.kind)) :: (5, .int .i64 (mostOf x.kind)) :: r) H := fun r => ⟨⟨r, rfl⟩, ⟨kH, gH⟩, by omega, by omega, hb⟩
    rcases kinds9 (k := x.kind) (by omega) (by omega) with hk | hk | hk | hk | hk | hk | hk | hk | hk
    all_goals
      simp only [hk, leastOf, mostOf] at fin
      simp at fin
      simp [q1, q3, l0, c0, hk]
      exact fin _

/-! ### the cases -/

/-- the cases ahead of one -/
def RkI (h : Heap) (c : List CV) (b : Nat) (C : Case) (l : List Case) (i : Nat) (m : Nat) (e : Env) (h' : Heap) : Prop :=
  ∃ k : Nat, k ≤ i ∧ m = i - k ∧ e = [(1, .ptr h.length 0), (6, .int .i64 i), (7, .ptr b 0), (8, .int .i64 k)] ∧ RcH h c h' ∧ h'[b]? = some (.arr (caL C) .tight) ∧ (l.take k).any (fun x => decide (x.chan = C.chan)) = false

def RaI (h : Heap) (c : List CV) (l : List Case) (m : Nat) (e : Env) (h' : Heap) : Prop :=
  ∃ i : Nat, i ≤ l.length ∧ m = l.length - i ∧ e = [(1, .ptr h.length 0), (6, .int .i64 i)] ∧ RcH h c h' ∧ casesGo [] l = casesGo (l.take i) (l.drop i)

theorem refCheck_tail (lp : LP p) {h h' : Heap} {c : List CV} {x : OpV} {P : Nat → Prop} {e : Env} {K : CV → Heap → Prop} (r0 : opC.rep h P c x) (m : RcM h c x e h') (kk : ∀ h', Keep NoneOf h h' → K (.int .i64 (opCheckP x)) h') :
    W p (back 7 S.b240) e h' (retQ [.t 2] K) := by
  obtain ⟨⟨r, rfl⟩, q, h1, h9, hb⟩ := m
  obtain ⟨cv, hC, s0⟩ := r0
  unfold S.b240
  simp only [back]
  have c0 : c[0]? = some (.int .i64 x.kind) := by subst hC; rfl
  have c1 : c[1]? = some (.int .i64 x.n) := by subst hC; rfl
  have c2 : c[2]? = some (.int .i64 x.v) := by subst hC; rfl
  have c3 : c[3]? = some (.int .i64 x.wait) := by subst hC; rfl
  have c4 : c[4]? = some cv := by subst hC; rfl
  clear hC
  have l0 := ld q.g
  have sH := s0.on q.k
  have nH := sH.len (by decide)
  rw [check_good h1 h9 hb] at kk
  clear hb
  generalize leastOf x.kind = lst at *
  generalize mostOf x.kind = mst at *
  simp [l0, c1, c3]
  refine WO_cut (fun e' => e'.get 1 = some (.ptr h.length 0) ∧ e'.get 90 = some (.bool (decide (x.n < lst ∨ mst < x.n ∨ x.wait < -1 ∨ 1000 < x.wait)))) ?_ ?_
  · by_cases a1 : x.n < lst
    · simp [a1, l0, c1, c3]
    by_cases a2 : mst < x.n
    · simp [a1, a2, l0, c1, c3]
    by_cases a3 : x.wait < -1
    · simp [a1, a2, a3, l0, c1, c3]
    by_cases a4 : 1000 < x.wait
    all_goals simp [a1, a2, a3, a4, l0, c1, c3]
  rintro e' ⟨q1, q3⟩
  by_cases B : x.n < lst ∨ mst < x.n ∨ x.wait < -1 ∨ 1000 < x.wait
  · rw [if_pos B] at kk
    rw [decide_eq_true B] at q3
    simp [q1, q3]
    exact kk _ q.k
  rw [if_neg B] at kk
  rw [decide_eq_false B] at q3
  clear B
  by_cases h7 : x.kind = 7
  case neg =>
    rw [if_neg h7] at kk
    simp [q1, q3, l0, c0, h7]
    exact kk _ q.k
  rw [if_pos h7] at kk
  rw [h7] at c0
  generalize x.cases = l at *
  by_cases n1 : (l.length : Int) < 1
  · rw [show casesP l = 18 by unfold casesP; rw [if_pos (.inl (by omega))]] at kk
    have n1' : l.length = 0 := by omega
    simp [q1, q3, l0, c0, c4, nH, n1, n1']
    exact kk _ q.k
  by_cases n4 : (4 : Int) < l.length
  · rw [show casesP l = 18 by unfold casesP; rw [if_pos (.inr (by omega))]] at kk
    have n1' : ¬ l.length = 0 := by omega
    simp [q1, q3, l0, c0, c4, nH, n1, n1', n4]
    exact kk _ q.k
  rw [show casesP l = casesGo [] l by unfold casesP; rw [if_neg (by omega)]] at kk
  have n1' : ¬ l.length = 0 := by omega
  simp [q1, q3, l0, c0, c4, nH, n1, n1', n4]
  clear q1 q3
  refine W_loop (RaI h c l) ?_ l.length ⟨0, by omega, by omega, rfl, q, by simp⟩
  clear q l0 sH nH
  rintro m e H1 ⟨i, hi, rfl, rfl, q, hgo⟩
  rw [hgo] at kk
  have l0 := ld q.g
  have sH := s0.on q.k
  have nH := sH.len (by decide)
  by_cases hie : i = l.length
  · subst hie
    rw [List.drop_length] at kk
    simp [l0, c4, nH]
    exact kk _ q.k
  · have hlt : i < l.length := by omega
    have hlt' : (i : Int) < l.length := by omega
    obtain ⟨b0, o0, row, x1, x2, x3, x4⟩ := sH.row (k := .i64) (by decide) hlt
    have x4 : row = caL l[i] := x4
    simp only [caseC] at x1 x2
    rw [x4] at x2
    have hw : IntKind.i64.wrap ((i : Int) + 1) = ((i + 1 : Nat) : Int) := by rw [w64 (by omega) (by omega)]; omega
    rw [List.drop_eq_getElem_cons hlt, casesGo, List.take_append_getElem hlt] at kk hgo
    generalize hC : l[i] = C at *
    have st := store_new (h := H1) (z := [.bool false, .int .i64 0, .int .i64 0]) (row := caL C) rfl rfl
    have hf : fits (some 3) (.agg (caL C)) = true := rfl
    have kap : Keep NoneOf H1 (H1 ++ [.arr (caL C) .tight]) := Keep.app _ _ _
    have gC : (H1 ++ [Obj.arr (caL C) .tight])[H1.length]? = some (.arr (caL C) .tight) := by simp
    have q2 : RcH h c (H1 ++ [.arr (caL C) .tight]) := ⟨q.k.trans kap, kap.at q.g id⟩
    have lC := ld gC
    have hlc : (caL C).length = 3 := rfl
    simp [l0, c4, nH, hlt, hlt', x1, x2, hlc, st]
    generalize hb : H1.length = b at *
    have hbl : h.length < b := by rw [← hb]; exact lt_of_get q.g
    generalize H1 ++ [Obj.arr (caL C) .tight] = H2 at *
    simp [lC, caL_1]
    refine WO_cut (fun e' => e'.get 1 = some (.ptr h.length 0) ∧ e'.get 6 = some (.int .i64 i) ∧ e'.get 7 = some (.ptr b 0) ∧ e'.get 133 = some (.bool (caseBad C))) ?_ ?_
    · unfold caseBad
      by_cases a1 : C.chan < 0
      · simp [a1, lC, caL_0, caL_1, caL_2]
      by_cases a2 : 8 ≤ C.chan
      · simp [a1, a2, lC, caL_0, caL_1, caL_2]
      cases a3 : C.send with
      | true => simp [a1, a2, a3, lC, caL_0, caL_1, caL_2]
      | false =>
        by_cases a4 : C.v = 0
        all_goals simp [a1, a2, a3, a4, lC, caL_0, caL_1, caL_2]
    rintro e' ⟨p1, p6, p7, p133⟩
    cases hbad : caseBad C with
    | true =>
      rw [hbad] at p133
      rw [if_pos hbad] at kk
      simp [p1, p6, p7, p133]
      exact kk _ q2.k
    | false =>
      rw [hbad] at p133
      have hnb : ¬ caseBad C = true := by rw [hbad]; simp
      rw [if_neg hnb] at kk hgo
      simp [p1, p6, p7, p133]
      refine W_loop (RkI h c b C l i) ?_ i ⟨0, by omega, by omega, rfl, q2, gC, by simp⟩
      clear q2 l0 sH nH q lC gC st kap x1 x2 x3 x4
      rintro m e H3 ⟨k, hk, rfl, rfl, q3, gC, hno⟩
      have l0 := ld q3.g
      have lC := ld gC
      have sH := s0.on q3.k
      have nH := sH.len (by decide)
      by_cases hki : k = i
      · subst hki
        rw [hno] at kk hgo
        simp only [Bool.false_eq_true, if_false] at kk hgo
        simp [hw]
        exact ⟨_, by omega, k + 1, by omega, rfl, rfl, q3, hgo⟩
      · have hlk : k < i := by omega
        have hlk' : (k : Int) < i := by omega
        have hkl : k < l.length := by omega
        obtain ⟨b1, o1, row, x1, x2, x3, x4⟩ := sH.row (k := .i64) (by decide) hkl
        have x4 : row = caL l[k] := x4
        simp only [caseC] at x1 x2 x3
        rw [x4] at x3
        have x31 := x3 1 (by decide)
        rw [caL_1] at x31
        have hwk : IntKind.i64.wrap ((k : Int) + 1) = ((k + 1 : Nat) : Int) := by rw [w64 (by omega) (by omega)]; omega
        by_cases he : l[k].chan = C.chan
        · have hany : (l.take i).any (fun x => decide (x.chan = C.chan)) = true := by
            rw [List.any_eq_true]
            refine ⟨l[k], ?_, by simpa using he⟩
            rw [List.mem_take_iff_getElem]
            exact ⟨k, by omega, rfl⟩
          rw [hany] at kk
          simp only [if_true] at kk
          simp [hlk, hlk', l0, c4, x1, x31, lC, caL_1, he]
          exact kk _ q3.k
        · simp [hlk, hlk', l0, c4, x1, x31, lC, caL_1, he, hwk]
          refine ⟨_, by omega, k + 1, by omega, rfl, rfl, q3, gC, ?_⟩
          rw [← List.take_append_getElem hkl, List.any_append, hno]
          simp [he]

theorem refOpCheck_spec (lp : LP p) {h : Heap} {c : List CV} {x : OpV} {P : Nat → Prop} (r0 : opC.rep h P c x) : WF p 240 [.agg c] h fun r h' => r = .int .i64 (opCheckP x) ∧ Keep NoneOf h h' := by
  refine WF_of (by rw [lp.pg]; exact S.pg240) (lp.no ⟨rfl, rfl⟩) ?_
  show W p S.b240 [(0, .agg c)] h (retQ [.t 2] fun r h' => r = .int .i64 (opCheckP x) ∧ Keep NoneOf h h')
  refine W_front 7 _ _ (refCheck_head lp r0 fun h' k => ⟨rfl, k⟩) fun e h1 m1 => ?_
  exact refCheck_tail lp r0 m1 fun h' k => ⟨rfl, k⟩

end Go.Cl

namespace Go.Cl
open Go
set_option linter.unusedSimpArgs false
set_option linter.unusedVariables false
set_option maxHeartbeats 1000000

variable {p : PP}

theorem OV_ite {α : Type} {c : Prop} [Decidable c] {v : α} {K : α → Prop} : OV (if c then some v else none) K = (c ∧ K v) := by
  by_cases h : c <;> simp [h]

def wordsK : List Wd := [[], wRun, wLock, wUnlock, wSend, wRecv, wClose, wSelect, wLoop, wEnd]

theorem wordsK_at {i : Nat} (h1 : i < 10) : wordsK[i]'h1 = wordOf i := by
  have : i = 0 ∨ i = 1 ∨ i = 2 ∨ i = 3 ∨ i = 4 ∨ i = 5 ∨ i = 6 ∨ i = 7 ∨ i = 8 ∨ i = 9 := by omega
  rcases this with rfl | rfl | rfl | rfl | rfl | rfl | rfl | rfl | rfl | rfl <;> rfl

theorem refWords_spec (lp : LP p) {h : Heap} : WF p 260 [] h fun r h' => ∃ v, r = v ∧ Sl .str h' (From h) v wordsK ∧ Keep NoneOf h h' := by
  refine WF_of (by rw [lp.pg]; exact S.pg260) (lp.no ⟨rfl, rfl⟩) ?_
  show W p S.b260 _ _ (retQ [.t 0] _)
  unfold S.b260
  simp [fillC, splice, CV.cells]
  refine ⟨?_, Keep.app _ _ _⟩
  exact Sl.fresh (rows_strs (l := wordsK)) rfl

/-- the table's word of a Kind -/
theorem wordK_row {h : Heap} {P : Nat → Prop} {v : CV} {k : Int} (s : Sl .str h P v wordsK) (h0 : 0 ≤ k) (h9 : k ≤ 9) :
    ∃ b o, idxAddrV 1 v (.int .i64 k) = some (.ptr b o) ∧ loadAt h b o none = some (.str (wordOf k)) := by
  obtain ⟨i, hi⟩ := Int.eq_ofNat_of_zero_le h0
  have hi9 : i < wordsK.length := by show i < 10; omega
  obtain ⟨b0, o0, row, x1, x2, x3, x4⟩ := s.row (k := .i64) (by decide) hi9
  rw [wordsK_at hi9, ← hi] at x4
  have x4 : row = [.str (wordOf k)] := x4
  have x1 : idxAddrV 1 v (.int .i64 i) = some (.ptr b0 o0) := x1
  rw [← hi] at x1
  have x5 := x3 0 (by decide)
  rw [x4] at x5
  exact ⟨b0, o0, x1, x5⟩

theorem refWait_spec (lp : LP p) {n : Int} {h : Heap} (h0 : -1 ≤ n) (h1 : n ≤ 9223372036854775807) : WF p 261 [.int .i64 n] h fun r h' => r = .str (waitW n) ∧ Keep NoneOf h h' := by
  refine WF_of (by rw [lp.pg]; exact S.pg261) (lp.no ⟨rfl, rfl⟩) ?_
  show W p S.b261 _ _ (retQ [.t 2] _)
  unfold S.b261 waitW
  by_cases hn : n = -1
  · subst hn
    simp
    exact Keep.refl _ _
  · have hn' : ¬ n < 0 := by omega
    simp [hn, hn']
    refine (refWord_spec lp _ n _ (Nat.le_refl _) (by omega) h1).mono ?_
    rintro r h2 ⟨rfl, k⟩
    simp
    exact k

theorem joinC_tl (c : UInt8) : ∀ (w : Wd) (ws : List Wd), joinC c (w :: ws) = w ++ ws.flatMap fun u => c :: u
  | w, [] => by simp [joinC]
  | w, v :: r => by rw [joinC_cons (by simp), joinC_tl c v r, List.flatMap_cons, List.cons_append]

theorem tl_len : ∀ (ws : List Wd), (∀ w ∈ ws, w.length ≤ 21) → (ws.flatMap fun u => (32 : UInt8) :: u).length ≤ ws.length * 22
  | [], _ => by simp
  | w :: r, h => by
    have := tl_len r fun u hu => h u (by simp [hu])
    have := h w (by simp)
    rw [List.flatMap_cons, List.length_append, List.length_cons, List.length_cons, Nat.succ_mul]
    omega

def RtI (h : Heap) (c : List CV) (w : Wd) (cs : List Case) (m : Nat) (e : Env) (h' : Heap) : Prop :=
  ∃ i : Nat, i ≤ cs.length ∧ m = cs.length - i ∧ e = [(1, .ptr h.length 0), (3, .str (w ++ ((cs.take i).flatMap told).flatMap fun u => 32 :: u)), (4, .int .i64 i)] ∧ RcH h c h'

theorem refOpText_spec (lp : LP p) {h : Heap} {c : List CV} {x : OpV} {P : Nat → Prop} (r0 : opC.rep h P c x) (hc : opCheckP x = 0) (hx : x.In) : WF p 242 [.agg c] h fun r h' => r = .str (opText x) ∧ Keep NoneOf h h' := by
  have ok := opOk hc
  obtain ⟨cv, hC, s0⟩ := r0
  refine WF_of (by rw [lp.pg]; exact S.pg242) (lp.no ⟨rfl, rfl⟩) ?_
  show W p S.b242 _ _ (retQ [.t 2] _)
  unfold S.b242
  have c0 : c[0]? = some (.int .i64 x.kind) := by subst hC; rfl
  have c1 : c[1]? = some (.int .i64 x.n) := by subst hC; rfl
  have c2 : c[2]? = some (.int .i64 x.v) := by subst hC; rfl
  have c3 : c[3]? = some (.int .i64 x.wait) := by subst hC; rfl
  have c4 : c[4]? = some cv := by subst hC; rfl
  clear hC
  have k1 := ok.k0
  have k9 := ok.k9
  have hw0 := ok.w0
  have hw1 := ok.w1
  rw [show opText x = joinC 32 (opWords x) by unfold opText; rw [if_neg (by omega)]]
  rw [show joinC 32 (opWords x) = wordOf x.kind ++ (if x.kind = 4 then [itoa x.n, itoa x.v, waitW x.wait] else if x.kind = 5 then [itoa x.n, waitW x.wait] else if x.kind = 7 then waitW x.wait :: x.cases.flatMap told else if x.kind = 9 then [] else [itoa x.n]).flatMap (fun u => 32 :: u) from joinC_tl 32 _ _]
  have gH : (h ++ [Obj.arr c .tight])[h.length]? = some (.arr c .tight) := by simp
  have l0 := ld gH
  simp [CV.cells, l0, c0]
  refine WO_re_n ?_
  simp
  refine (refWords_spec lp).mono ?_
  rintro r h1 ⟨v, rfl, sl, kk⟩
  have g1 := kk.at gH id
  have K1 : Keep NoneOf h h1 := (Keep.app _ _ _).trans kk
  clear l0
  have l0 := ld g1
  refine ⟨fun c => by simp [recheckB, wanted, Env.get, cls, evOp, Opd.ev, withH, CV.eqb, l0, c0], ?_⟩
  obtain ⟨b0, o0, x1, x2⟩ := wordK_row (k := x.kind) sl (by omega) k9
  simp [x1, x2, l0, c0]
  have lw := wordOf_len x.kind
  have ln := itoa_len x.n
  have lv := itoa_len x.v
  have lwt := waitW_len x.wait
  generalize hW : wordOf x.kind = w at *
  have word : ∀ {n : Int} {h' : Heap} {K : CV → Heap → Prop}, inI n → (∀ h2, Keep NoneOf h' h2 → K (.str (itoa n)) h2) → WF p 101 [.int .i64 n] h' K := fun hn k =>
    (refWord_spec lp _ _ _ (Nat.le_refl _) hn.1 hn.2).mono fun r h2 ⟨a, b⟩ => a ▸ k h2 b
  have wait : ∀ {h' : Heap} {K : CV → Heap → Prop}, (∀ h2, Keep NoneOf h' h2 → K (.str (waitW x.wait)) h2) → WF p 261 [.int .i64 x.wait] h' K := fun k =>
    (refWait_spec lp hw0 (by omega)).mono fun r h2 ⟨a, b⟩ => a ▸ k h2 b
  clear sl x1 x2 kk gH
  by_cases h9 : x.kind = 9
  · simp [h9]
    exact K1
  by_cases h4 : x.kind = 4
  · simp [h4, h9, l0, c1, c2, c3, binStr, OV_ite]
    repeat refine And.intro (by omega) ?_
    refine WO_re_n ?_
    simp
    refine word hx.n fun h2 k2 => ?_
    have l2 := ld (k2.at g1 id)
    refine ⟨fun c => by simp [recheckB, wanted, Env.get, cls, evOp, Opd.ev, withH, CV.eqb, l2, c2, c3, CV.eqb_refl], ?_⟩
    simp [binStr, OV_ite]
    repeat refine And.intro (by omega) ?_
    refine WO_re_n ?_
    simp
    refine word hx.v fun h3 k3 => ?_
    have l3 := ld (k3.at (k2.at g1 id) id)
    refine ⟨fun c => by simp [recheckB, wanted, Env.get, cls, evOp, Opd.ev, withH, CV.eqb, l3, c2, c3, CV.eqb_refl], ?_⟩
    simp [binStr, OV_ite]
    repeat refine And.intro (by omega) ?_
    refine wait fun h4 k4 => ?_
    simp [binStr, OV_ite]
    repeat refine And.intro (by omega) ?_
    exact ((K1.trans k2).trans k3).trans k4
  by_cases h5 : x.kind = 5
  · simp [h4, h5, h9, l0, c1, c2, c3, binStr, OV_ite]
    repeat refine And.intro (by omega) ?_
    refine WO_re_n ?_
    simp
    refine word hx.n fun h2 k2 => ?_
    have l2 := ld (k2.at g1 id)
    refine ⟨fun c => by simp [recheckB, wanted, Env.get, cls, evOp, Opd.ev, withH, CV.eqb, l2, c2, c3, CV.eqb_refl], ?_⟩
    simp [binStr, OV_ite]
    repeat refine And.intro (by omega) ?_
    refine wait fun h4 k4 => ?_
    simp [binStr, OV_ite]
    repeat refine And.intro (by omega) ?_
    exact (K1.trans k2).trans k4
  by_cases h7 : x.kind = 7
  · simp [h4, h5, h7, h9, l0, c1, c2, c3, binStr, OV_ite]
    repeat refine And.intro (by omega) ?_
    refine wait fun h2 k2 => ?_
    simp [binStr, OV_ite]
    repeat refine And.intro (by omega) ?_
    refine W_loop (RtI h c (w ++ 32 :: waitW x.wait) x.cases) ?_ x.cases.length ⟨0, by omega, by omega, by simp, K1.trans k2, k2.at g1 id⟩
    clear l0 g1
    rintro m e H1 ⟨i, hi, rfl, rfl, q⟩
    have l0 := ld q.g
    have sH := s0.on q.k
    have nH := sH.len (by decide)
    have hcl := hx.l
    by_cases hie : i = x.cases.length
    · subst hie
      simp [l0, c4, nH]
      exact q.k
    · have hlt : i < x.cases.length := by omega
      have hlt' : (i : Int) < x.cases.length := by omega
      obtain ⟨b0, o0, row, x1, x2, x3, x4⟩ := sH.row (k := .i64) (by decide) hlt
      have x4 : row = caL x.cases[i] := x4
      simp only [caseC] at x1 x2
      rw [x4] at x2
      have hw : IntKind.i64.wrap ((i : Int) + 1) = ((i + 1 : Nat) : Int) := by rw [w64 (by omega) (by omega)]; omega
      have hin := hx.c x.cases[i] (List.getElem_mem hlt)
      have hT : (x.cases.take (i + 1)).flatMap told = (x.cases.take i).flatMap told ++ told x.cases[i] := by
        rw [← List.take_append_getElem hlt, List.flatMap_append]; simp
      have hSl : (w ++ 32 :: waitW x.wait ++ ((x.cases.take i).flatMap told).flatMap fun u => 32 :: u).length ≤ 100000000 := by
        have a1 := tl_len ((x.cases.take i).flatMap told) fun u hu => by
          obtain ⟨c, _, hc⟩ := List.mem_flatMap.1 hu
          exact (told_len c).2 u hc
        have a2 := tolds_len (x.cases.take i)
        rw [List.length_take] at a2
        have a3 : ((x.cases.take i).flatMap told).length * 22 ≤ (3 * min i x.cases.length) * 22 := Nat.mul_le_mul_right _ a2
        simp only [List.length_append, List.length_cons]
        omega
      have hSe : (w ++ 32 :: waitW x.wait ++ ((x.cases.take (i + 1)).flatMap told).flatMap fun u => 32 :: u) = (w ++ 32 :: waitW x.wait ++ ((x.cases.take i).flatMap told).flatMap fun u => 32 :: u) ++ (told x.cases[i]).flatMap fun u => 32 :: u := by
        rw [hT, List.flatMap_append]
        simp only [List.append_assoc]
      clear hT
      generalize hSg : (w ++ 32 :: waitW x.wait ++ ((x.cases.take i).flatMap told).flatMap fun u => 32 :: u) = Sg at *
      have lc1 := itoa_len x.cases[i].chan
      have lc2 := itoa_len x.cases[i].v
      generalize hC : x.cases[i] = C at *
      have st := store_new (h := H1) (z := [.bool false, .int .i64 0, .int .i64 0]) (row := caL C) rfl rfl
      have kap : Keep NoneOf H1 (H1 ++ [.arr (caL C) .tight]) := Keep.app _ _ _
      have gC : (H1 ++ [Obj.arr (caL C) .tight])[H1.length]? = some (.arr (caL C) .tight) := by simp
      have q2 : RcH h c (H1 ++ [.arr (caL C) .tight]) := ⟨q.k.trans kap, kap.at q.g id⟩
      have lC := ld gC
      have hlc : (caL C).length = 3 := rfl
      simp [l0, c4, nH, hlt, hlt', x1, x2, hlc, st]
      generalize hb : H1.length = b at *
      generalize H1 ++ [Obj.arr (caL C) .tight] = H2 at *
      cases hs : C.send with
      | true =>
        have htold : told C = [wSend, itoa C.chan, itoa C.v] := by unfold told; rw [if_pos hs]
        rw [htold] at hSe
        simp [lC, caL_0, caL_1, caL_2, hs, binStr, OV_ite]
        repeat refine And.intro (by omega) ?_
        refine WO_re_n ?_
        simp
        refine word hin.1 fun h3 k3 => ?_
        have l3 := ld (k3.at gC id)
        refine ⟨fun c => by simp [recheckB, wanted, Env.get, cls, evOp, Opd.ev, withH, CV.eqb, l3, caL_2, CV.eqb_refl], ?_⟩
        simp [binStr, OV_ite]
        repeat refine And.intro (by omega) ?_
        refine word hin.2 fun h4 k4 => ?_
        simp [binStr, OV_ite, hw]
        repeat refine And.intro (by omega) ?_
        refine ⟨_, by omega, i + 1, by omega, rfl, ?_, (q2.k.trans k3).trans k4, k4.at (k3.at q2.g id) id⟩
        rw [hSe]
        simp
      | false =>
        have htold : told C = [wRecv, itoa C.chan] := by unfold told; rw [if_neg (by rw [hs]; simp)]
        rw [htold] at hSe
        simp [lC, caL_0, caL_1, caL_2, hs, binStr, OV_ite]
        repeat refine And.intro (by omega) ?_
        refine word hin.1 fun h3 k3 => ?_
        simp [binStr, OV_ite, hw]
        repeat refine And.intro (by omega) ?_
        refine ⟨_, by omega, i + 1, by omega, rfl, ?_, q2.k.trans k3, k3.at q2.g id⟩
        rw [hSe]
        simp
  · simp [h4, h5, h7, h9, l0, c1, c2, c3, binStr, OV_ite]
    repeat refine And.intro (by omega) ?_
    refine word hx.n fun h2 k2 => ?_
    simp [binStr, OV_ite]
    repeat refine And.intro (by omega) ?_
    exact K1.trans k2

end Go.Cl

namespace Go.Cl
open Go
set_option linter.unusedSimpArgs false
set_option linter.unusedVariables false
set_option maxHeartbeats 1000000

variable {p : PP}

/-- a word of a row -/
theorem Sl.word {h : Heap} {P : Nat → Prop} {v : CV} {l : List Wd} (s : Sl .str h P v l) {i : Nat} (hi : i < l.length) : ∃ b o, idxAddrV 1 v (.int .i64 i) = some (.ptr b o) ∧ loadAt h b o none = some (.str (at_ l i)) := by
  obtain ⟨b1, o1, row, x1, x2, x3, x4⟩ := s.row (k := .i64) (by decide) hi
  have x4 : row = [.str l[i]] := x4
  have x1 : idxAddrV 1 v (.int .i64 i) = some (.ptr b1 o1) := x1
  have x5 := x3 0 (by decide)
  have hat : at_ l i = l[i] := by simp [at_, List.getElem?_eq_getElem hi]
  rw [x4, ← hat] at x5
  exact ⟨b1, o1, x1, x5⟩

/-! ### which Kind -/

def RkwI (h : Heap) (v : CV) (w : Wd) (m : Nat) (e : Env) (h' : Heap) : Prop :=
  ∃ i : Nat, 1 ≤ i ∧ i ≤ 10 ∧ m = 10 - i ∧ e = [(0, .str w), (3, v), (4, .int .i64 i)] ∧ Keep NoneOf h h' ∧ Sl .str h' Any v wordsK ∧ ∀ j : Nat, 1 ≤ j → j < i → wordOf j ≠ w

theorem refKind_spec (lp : LP p) {h : Heap} {w : Wd} : WF p 262 [.str w] h fun r h' => r = .int .i64 (kindOf w) ∧ Keep NoneOf h h' := by
  refine WF_of (by rw [lp.pg]; exact S.pg262) (lp.no ⟨rfl, rfl⟩) ?_
  show W p S.b262 _ _ (retQ [.t 2] _)
  unfold S.b262
  simp
  refine (refWords_spec lp).mono ?_
  rintro r h1 ⟨v, rfl, s1, k1⟩
  refine W_loop (RkwI h r w) ?_ 9 ⟨1, by omega, by omega, by omega, rfl, k1, s1.mono fun _ _ => trivial, fun j h1 h2 => by omega⟩
  rintro m e H ⟨i, h1, h10, rfl, rfl, k, s, hno⟩
  have n0 := s.len (by decide)
  have n0 : lenV H .sl r = some (.int .i64 10) := n0
  by_cases hie : i = 10
  · subst hie
    have hz : kindOf w = 0 := by
      have hb := kind_le w
      by_cases hk : 1 ≤ kindOf w
      · exfalso
        obtain ⟨j, hj⟩ := Int.eq_ofNat_of_zero_le hb.1
        refine hno j (by omega) (by omega) ?_
        rw [← hj]
        exact word_kind hk
      · omega
    rw [hz]
    simp [n0]
    exact k
  · have hlt : i < wordsK.length := by show i < 10; omega
    have hlt' : (i : Int) < 10 := by omega
    have hlt2 : i < 10 := by omega
    obtain ⟨b0, o0, x1, x2⟩ := wordK_row (k := i) s (by omega) (by omega)
    have hw : IntKind.i64.wrap ((i : Int) + 1) = ((i + 1 : Nat) : Int) := by rw [w64 (by omega) (by omega)]; omega
    by_cases he : wordOf i = w
    · have := kind_word (k := i) (by omega) (by omega)
      rw [he] at this
      simp [n0, hlt', hlt2, x1, x2, he, this]
      exact k
    · simp [n0, hlt', hlt2, x1, x2, he, hw]
      refine ⟨_, by omega, i + 1, by omega, by omega, rfl, rfl, k, s, fun j hj hji => ?_⟩
      by_cases hjj : j = i
      · subst hjj; exact he
      · exact hno j hj (by omega)

/-! ### a wait -/

def refW (w : Wd) : Int × Int := if w = [45] then (-1, 0) else if (numP w).2 ≠ 0 then (0, (numP w).2) else if (numP w).1 < 0 then (0, 2) else numP w

theorem refW_eq (w : Wd) : (refW w).2 = (waitR 0 w).2 ∧ ((refW w).2 = 0 → (refW w).1 = (waitR 0 w).1) := by
  unfold refW waitR
  rw [if_pos rfl]
  by_cases h1 : w = [45]
  · rw [if_pos h1, if_pos h1]; exact ⟨rfl, fun _ => rfl⟩
  rw [if_neg h1, if_neg h1]
  by_cases h2 : (numP w).2 = 0
  · rw [if_neg (by simpa using h2)]
    by_cases h3 : (numP w).1 < 0
    · rw [if_pos h3, if_pos ⟨h2, h3⟩]; exact ⟨rfl, fun h => by cases h⟩
    · rw [if_neg h3, if_neg fun hq => h3 hq.2]; exact ⟨rfl, fun _ => rfl⟩
  · rw [if_pos h2, if_neg fun hq => h2 hq.1]; exact ⟨rfl, fun h => absurd h h2⟩

theorem refParseWait_spec (lp : LP p) {h : Heap} {w : Wd} (hw : w.length < 4294967281) : WF p 264 [.str w] h fun r h' => r = .tup [.int .i64 (refW w).1, .int .i64 (refW w).2] ∧ Keep NoneOf h h' := by
  refine WF_of (by rw [lp.pg]; exact S.pg264) (lp.no ⟨rfl, rfl⟩) ?_
  show W p S.b264 _ _ (retQ [.t 2, .t 3] _)
  unfold S.b264 refW
  by_cases h1 : w = [45]
  · simp [h1]
    exact Keep.refl _ _
  · simp [h1]
    refine (refNumber_spec lp hw).mono ?_
    rintro r h2 ⟨rfl, k⟩
    by_cases h2 : (numP w).2 = 0
    · by_cases h3 : (numP w).1 < 0
      · simp [h2, h3]
        exact k
      · simp [h2, h3]
        exact k
    · simp [h2]
      exact k

/-! ### how many words -/

def SlI (v : CV) (l : List Wd) (h : Heap) (m : Nat) (e : Env) (h' : Heap) : Prop :=
  ∃ i : Nat, 2 ≤ i ∧ i ≤ l.length + 3 ∧ m = l.length + 3 - i ∧ e = [(1, v), (5, .int .i64 i)] ∧ h' = h ∧ shapedP (l.drop 2) = (if i ≤ l.length then shapedP (l.drop i) else false)

theorem refLaid_spec (lp : LP p) {h : Heap} {k : Int} {v : CV} {l : List Wd} {P : Nat → Prop} (s : Sl .str h P v l) (hl : l.length ≤ big) (hne : l ≠ []) :
    WF p 263 [.int .i64 k, v] h fun r h' => r = .bool (countP k l.tail) ∧ Keep NoneOf h h' := by
  refine WF_of (by rw [lp.pg]; exact S.pg263) (lp.no ⟨rfl, rfl⟩) ?_
  show W p S.b263 _ _ (retQ [.t 4] _)
  unfold S.b263
  have n0 := s.len (by decide)
  have hlen : 0 < l.length := List.length_pos_iff.2 hne
  have hd : ∀ n : Nat, decide ((l.length : Int) = (n : Int) + 1) = decide (l.tail.length = n) := fun n => by
    rw [List.length_tail]
    by_cases hq : l.length = n + 1
    · rw [decide_eq_true (by omega), decide_eq_true (by omega)]
    · rw [decide_eq_false (by omega), decide_eq_false (by omega)]
  have hd1 : decide ((l.length : Int) = 1) = decide (l.tail.length = 0) := hd 0
  have hd2 : decide ((l.length : Int) = 2) = decide (l.tail.length = 1) := hd 1
  have hd3 : decide ((l.length : Int) = 3) = decide (l.tail.length = 2) := hd 2
  have hd4 : decide ((l.length : Int) = 4) = decide (l.tail.length = 3) := hd 3
  by_cases h4 : k = 4
  · rw [show countP k l.tail = decide (l.tail.length = 3) by unfold countP; rw [if_pos h4], ← hd4]
    simp [n0, h4]
    exact Keep.refl _ _
  by_cases h5 : k = 5
  · rw [show countP k l.tail = decide (l.tail.length = 2) by unfold countP; rw [if_neg h4, if_pos h5], ← hd3]
    simp [n0, h5]
    exact Keep.refl _ _
  by_cases h9 : k = 9
  · rw [show countP k l.tail = decide (l.tail.length = 0) by unfold countP; rw [if_neg h4, if_neg h5, if_neg (by omega), if_pos h9], ← hd1]
    simp [n0, h9]
    exact Keep.refl _ _
  by_cases h7 : k = 7
  · subst h7
    by_cases h2 : l.length < 2
    · have h2' : (l.length : Int) < 2 := by omega
      have ht : l.tail = [] := List.eq_nil_of_length_eq_zero (by rw [List.length_tail]; omega)
      rw [ht, show countP 7 [] = false from rfl]
      simp [n0, h2, h2']
      exact Keep.refl _ _
    · have h2' : ¬ (l.length : Int) < 2 := by omega
      have hm : countP 7 l.tail = shapedP (l.drop 2) := by
        match l, h2 with
        | [], h => simp at h
        | [a], h => simp at h
        | a :: b :: r, _ => rfl
      rw [hm]
      simp [n0, h2, h2']
      refine W_loop (SlI v l h) ?_ (l.length + 1) ⟨2, by omega, by omega, by omega, rfl, rfl, by rw [if_pos (by omega)]⟩
      rintro m e h' ⟨i, hi2, hi3, rfl, rfl, rfl, hs⟩
      rw [hs]
      simp [big] at hl
      by_cases hlt : i < l.length
      · have hlt' : (i : Int) < l.length := by omega
        rw [if_pos (by omega)] at hs ⊢
        obtain ⟨b, o, x1, x2⟩ := s.word hlt
        have hw3 : IntKind.i64.wrap ((i : Int) + 3) = ((i + 3 : Nat) : Int) := by rw [w64 (by omega) (by omega)]; omega
        have hw2 : IntKind.i64.wrap ((i : Int) + 2) = ((i + 2 : Nat) : Int) := by rw [w64 (by omega) (by omega)]; omega
        have hdn : l.drop i ≠ [] := fun hq => by have := congrArg List.length hq; rw [List.length_drop] at this; simp at this; omega
        have hda : at_ (l.drop i) 0 = at_ l i := by simp [at_]
        by_cases a : at_ l i = wSend
        · have := shaped3 hdn (by rw [hda]; exact a)
          rw [List.length_drop, List.drop_drop] at this
          simp [n0, hlt, hlt', x1, x2, a, hw3]
          refine ⟨_, by omega, i + 3, by omega, by omega, rfl, rfl, rfl, ?_⟩
          rw [hs, this]
          by_cases h3 : l.length - i < 3
          · rw [if_pos h3, if_neg (by omega)]
          · rw [if_neg h3, if_pos (by omega)]
        by_cases b : at_ l i = wRecv
        · have := shaped2 hdn (by rw [hda]; exact b)
          rw [List.length_drop, List.drop_drop] at this
          simp [n0, hlt, hlt', x1, x2, a, b, hw2]
          refine ⟨_, by omega, i + 2, by omega, by omega, rfl, rfl, rfl, ?_⟩
          rw [hs, this]
          by_cases h3 : l.length - i < 2
          · rw [if_pos h3, if_neg (by omega)]
          · rw [if_neg h3, if_pos (by omega)]
        · have := shaped0 hdn (by rw [hda]; exact a) (by rw [hda]; exact b)
          rw [this]
          simp [n0, hlt, hlt', x1, x2, a, b]
          exact Keep.refl _ _
      · have hlt' : ¬ (i : Int) < l.length := by omega
        by_cases he : i = l.length
        · subst he
          rw [if_pos (Nat.le_refl _), List.drop_length]
          simp [n0, shapedP]
          exact Keep.refl _ _
        · rw [if_neg (by omega)]
          have he' : ¬ (i : Int) = l.length := by omega
          simp [n0, hlt, hlt', he, he']
          exact Keep.refl _ _
  · rw [show countP k l.tail = decide (l.tail.length = 1) by unfold countP; rw [if_neg h4, if_neg h5, if_neg h7, if_neg h9], ← hd2]
    simp [n0, h4, h5, h7, h9]
    exact Keep.refl _ _

end Go.Cl

namespace Go.Cl
open Go
set_option linter.unusedSimpArgs false
set_option linter.unusedVariables false
set_option maxHeartbeats 1000000

variable {p : PP}

structure RoH (h : Heap) (A O : Nat) (x : OpV) (cv wv : CV) (l : List Wd) (h' : Heap) : Prop where
  k : Keep NoneOf h h'
  a : h'[A]? = some (.arr (oCells op0 .nils) .tight)
  o : h'[O]? = some (.arr (oCells x cv) .tight)
  ow : OwnL caseC h' NoneOf cv x.cases
  ob : ∀ b, cv.blk = some b → h.length ≤ b ∧ b ≠ A ∧ b ≠ O
  s : Sl .str h' (fun k => k ≠ A ∧ k ≠ O ∧ cv.blk ≠ some k) wv l
  a0 : h.length ≤ A
  o0 : h.length ≤ O
  d : A ≠ O
  w : ∀ u ∈ l, u.length < 4294967281
  n : l.length ≤ 200000

section
variable {h h1 h2 : Heap} {A O : Nat} {x : OpV} {cv wv : CV} {l : List Wd}

theorem RoH.on (q : RoH h A O x cv wv l h1) (k : Keep NoneOf h1 h2) : RoH h A O x cv wv l h2 :=
  ⟨q.k.trans k, k.at q.a id, k.at q.o id, q.ow.on k, q.ob, q.s.on k, q.a0, q.o0, q.d, q.w, q.n⟩

theorem RoH.lay (q : RoH h A O x cv wv l h1) (y : OpV) (hy : y.cases = x.cases) : RoH h A O y cv wv l (h1.set O (.arr (oCells y cv) .tight)) := by
  have ke : Keep (fun b => b = O) h1 (h1.set O (.arr (oCells y cv) .tight)) := Keep.set _ _ rfl
  exact ⟨q.k.then ke fun b hb e => by have := q.o0; omega, ke.at q.a q.d, get_set_self (lt_of_get q.o), hy ▸ q.ow.keep ke (fun b hb => (q.ob b hb).2.2) (fun _ hb => hb.elim), q.ob, q.s.keep ke fun k hk => hk.2.1, q.a0, q.o0, q.d, q.w, q.n⟩

theorem RoH.push {c : Case} {n : Nat} {K : CV × Heap → Prop} (q : RoH h A O x cv wv l h1) (hl : x.cases.length ≤ 1000000) (hn : n = 1)
    (kk : ∀ cv' h2, h2[O]? = some (.arr (oCells x cv) .tight) → cv'.scalar = true → RoH h A O { x with cases := x.cases ++ [c] } cv' wv l (h2.set O (.arr (oCells x cv') .tight)) → K (cv', h2)) :
    OV (appendTo (h1 ++ [.arr (caL c) .tight]) 3 cv n (caL c)) K := by
  subst hn
  have kap : Keep NoneOf h1 (h1 ++ [.arr (caL c) .tight]) := Keep.app _ _ _
  refine OV_push (e := caseC) (x := c) (q.ow.on kap) rfl (fun _ hb => hb.elim) (by simp [big]; omega) (by decide) ?_
  intro cv' h2 o2 k2 hb2
  have gO := k2.at (kap.at q.o id) (fun hb => (q.ob _ hb).2.2 rfl)
  have gA := k2.at (kap.at q.a id) (fun hb => (q.ob _ hb).2.1 rfl)
  have hlo := lt_of_get q.o
  have hla := lt_of_get q.a
  have hob : ∀ b, cv'.blk = some b → h.length ≤ b ∧ b ≠ A ∧ b ≠ O := by
    intro b hb
    rcases hb2 b hb with hq | hq
    · exact q.ob b hq
    · have := q.k.len
      simp at hq
      exact ⟨by omega, by omega, by omega⟩
  refine kk cv' h2 gO o2.scalar ?_
  have ke : Keep (fun b => b = O) h2 (h2.set O (.arr (oCells x cv') .tight)) := Keep.set _ _ rfl
  have k3 : Keep NoneOf h h2 := (q.k.trans kap).then k2 fun b hb e => by have := q.ob b e; omega
  refine ⟨k3.then ke fun b hb e => by have := q.o0; omega, ke.at gA q.d, get_set_self (lt_of_get gO), o2.keep ke (fun b hb => (hob b hb).2.2) (fun _ hb => hb.elim), hob, ?_, q.a0, q.o0, q.d, q.w, q.n⟩
  refine (((q.s.lt.on kap).keep k2 fun k hk hb => hk.1.2.2 hb).keep ke fun k hk => hk.1.2.1).mono fun k hk => ⟨hk.1.1, hk.1.2.1, fun hb => ?_⟩
  rcases hb2 k hb with hq | hq
  · exact hk.1.2.2 hq
  · simp at hq
    omega

end

theorem at_tail {l : List Wd} {i : Nat} : at_ l (i + 1) = at_ l.tail i := tail_at.symm

/-- when the Kind is known -/
def RoM (h : Heap) (s : Wd) (e : Env) (h' : Heap) : Prop :=
  ∃ (A O : Nat) (kk : Int) (wv : CV) (l : List Wd), (∃ r, e = (2, .ptr A 0) :: (4, wv) :: (5, .int .i64 0) :: (6, .ptr O 0) :: r) ∧ RoH h A O ⟨kk, 0, 0, 0, []⟩ .nils wv l h' ∧ 1 ≤ kk ∧ kk ≤ 9 ∧ l ≠ [] ∧ countP kk l.tail = true ∧ parseP s = finP (readP kk l.tail)

theorem refParse_head (lp : LP p) {s : Wd} {h : Heap} (hs : s.length ≤ 100000) : W p (front 6 S.b244) [(0, .str s)] h (midQ (RoM h s) (retQ [.cell (some 5) 2, .t 3] (ParK h (parseP s)))) := by
  unfold S.b244 ParK
  simp only [front]
  have ca : ∀ l, (CV.agg l).cells = l := fun _ => rfl
  have cn : (CV.nils).cells = [.nils] := rfl
  have zz : ([.int .i64 0, .int .i64 0, .int .i64 0, .int .i64 0, .nils] : List CV) = oCells op0 .nils := rfl
  simp only [zz]
  have zb : fillC (oCells op0 .nils) [] = some (oCells op0 .nils) := rfl
  have zk : ∀ n : Int, fillC (oCells op0 .nils) [(0, 1, .int .i64 n)] = some (oCells ⟨n, 0, 0, 0, []⟩ .nils) := fun _ => rfl
  have lE : ∀ x cv, (oCells x cv).length = 5 := fun _ _ => rfl
  simp [ca, cn]
  refine (refSplit_spec lp (by omega)).mono ?_
  rintro r h1 ⟨wv, rfl, sl, k1⟩
  have gA := k1.at (b := h.length) (o := .arr (oCells op0 .nils) .tight) (by simp) id
  have K1 : Keep NoneOf h h1 := (Keep.app _ _ _).trans k1
  have stA : ∀ H' : Heap, H'[h.length]? = some (.arr (oCells op0 .nils) .tight) → storeAt H' h.length 0 (oCells op0 .nils) = some (H'.set h.length (.arr (oCells op0 .nils) .tight)) := fun H' g => sto g rfl rfl
  have ret0 : ∀ {H' : Heap}, Keep NoneOf h H' → H'[h.length]? = some (.arr (oCells op0 .nils) .tight) → loadAt (H'.set h.length (.arr (oCells op0 .nils) .tight)) h.length 0 (some 5) = some (.agg (oCells op0 .nils)) ∧ Keep NoneOf h (H'.set h.length (.arr (oCells op0 .nils) .tight)) := fun {H'} k g =>
    ⟨ldw (get_set_self (lt_of_get g)) rfl, k.then (Keep.set (S := fun b => b = h.length) _ _ rfl) fun b hb e => by omega⟩
  have rp0 : ∀ H' : Heap, opC.rep H' (From h) (oCells op0 .nils) op0 := fun H' => ⟨.nils, rfl, Sl.nil⟩
  have hwv := sl.scalar
  cases hws : wordsP s with
  | none =>
    have hP : parseP s = (op0, 2) := by unfold parseP; rw [hws]
    obtain ⟨q1, q2⟩ := ret0 K1 gA
    rw [hP]
    simp [errOf, ca, cn, zb, lE, stA _ gA, q1]
    exact ⟨rp0 _, q2⟩
  | some l =>
    rw [hws] at sl
    have sl : Sl .str h1 (From (h ++ [.arr (oCells op0 .nils) .tight])) wv l := sl
    have nl := sl.len (by decide)
    have hwn := words_ne hws
    have hll := words_len hws
    by_cases h0 : l = []
    · subst h0
      have hP : parseP s = (op0, 2) := by unfold parseP; rw [hws]
      obtain ⟨q1, q2⟩ := ret0 K1 gA
      have nl : lenV h1 .sl wv = some (.int .i64 0) := nl
      rw [hP]
      simp [errOf, ca, cn, zb, lE, nl, stA _ gA, q1]
      exact ⟨rp0 _, q2⟩
    · have hl1 : 0 < l.length := List.length_pos_iff.2 h0
      have hl1' : ¬ (l.length : Int) = 0 := by omega
      obtain ⟨b, o, x1, x2⟩ := sl.word hl1
      have x1 : idxAddrV 1 wv (.int .i64 0) = some (.ptr b o) := x1
      simp [errOf, ca, cn, nl, hl1', h0, x1, x2]
      refine (refKind_spec lp).mono ?_
      rintro r h2 ⟨rfl, k2⟩
      have hk9 := kind_le (at_ l 0)
      have hPW : parseP s = parseW (at_ l 0) l.tail := by
        unfold parseP; rw [hws]
        match l, h0 with
        | w :: r, _ => rfl
      unfold parseW at hPW
      generalize kindOf (at_ l 0) = kk at *
      have gA2 := k2.at gA id
      have kO : Keep NoneOf h2 (h2 ++ [.arr (oCells ⟨kk, 0, 0, 0, []⟩ .nils) .tight]) := Keep.app _ _ _
      have stO : storeAt (h2 ++ [.arr (oCells op0 .nils) .tight]) h2.length 0 (oCells ⟨kk, 0, 0, 0, []⟩ .nils) = some (h2 ++ [.arr (oCells ⟨kk, 0, 0, 0, []⟩ .nils) .tight]) := store_new rfl rfl
      have lO : ∀ o, loadAt (h2 ++ [.arr (oCells ⟨kk, 0, 0, 0, []⟩ .nils) .tight]) h2.length o none = (oCells ⟨kk, 0, 0, 0, []⟩ .nils)[o]? := fun o => one0 o
      have gA3 := kO.at gA2 id
      have hla := lt_of_get gA
      have hl12 := k2.len
      have q : RoH h h.length h2.length ⟨kk, 0, 0, 0, []⟩ .nils wv l (h2 ++ [.arr (oCells ⟨kk, 0, 0, 0, []⟩ .nils) .tight]) := by
        refine ⟨(K1.trans k2).trans kO, gA3, by simp, OwnL.nil, by simp [CV.blk], ?_, Nat.le_refl _, by omega, by omega, fun u hu => by have := (hwn u hu).2; omega, by omega⟩
        refine ((sl.lt.on k2).on kO).mono fun k hk => ⟨?_, by omega, by simp [CV.blk]⟩
        have := hk.1
        simp [From] at this
        omega
      simp [zk, ca, lE, stO, lO]
      generalize h2 ++ [Obj.arr (oCells ⟨kk, 0, 0, 0, []⟩ .nils) .tight] = H3 at *
      obtain ⟨q1, q2⟩ := ret0 q.k q.a
      by_cases hz : kk = 0
      · rw [if_pos (.inl (by omega))] at hPW
        rw [hPW]
        simp [hz, zb, ca, lE, stA _ q.a, q1]
        exact ⟨rp0 _, q2⟩
      · have lO3 := ld q.o
        simp [hz, lO3]
        refine (refLaid_spec lp q.s (by simp [big]; omega) h0).mono ?_
        rintro r H4 ⟨rfl, k4⟩
        have q4 := q.on k4
        obtain ⟨q1, q2⟩ := ret0 q4.k q4.a
        by_cases hc : countP kk l.tail = false
        · rw [if_pos (.inr hc)] at hPW
          rw [hPW]
          simp [hc, zb, ca, lE, stA _ q4.a, q1]
          exact ⟨rp0 _, q2⟩
        · rw [if_neg fun hq => by
            rcases hq with hq | hq
            · omega
            · exact hc hq] at hPW
          rw [Bool.not_eq_false] at hc
          simp [hc]
          exact ⟨_, _, kk, wv, l, ⟨_, rfl⟩, q4, by omega, hk9.2, h0, hc, hPW⟩

end Go.Cl

namespace Go.Cl
open Go
set_option linter.unusedSimpArgs false
set_option linter.unusedVariables false
set_option maxHeartbeats 1000000

variable {p : PP}

/-- when all is read -/
def RoN (h : Heap) (s : Wd) (e : Env) (h' : Heap) : Prop :=
  ∃ (A O : Nat) (x : OpV) (cv wv : CV) (l : List Wd) (e0 : Int), (∃ k0 v0 r, e = (k0, v0) :: r) ∧ e.get 2 = some (.ptr A 0) ∧ e.get 5 = some (.int .i64 e0) ∧ e.get 6 = some (.ptr O 0) ∧ RoH h A O x cv wv l h' ∧ parseP s = finP (x, e0)

theorem finP_err {x : OpV} {e : Int} (h : e ≠ 0) : finP (x, e) = (op0, e) := by unfold finP; rw [if_neg h]

theorem finW (f : Int → OpV) (w : Wd) : finP (f (waitR 0 w).1, (waitR 0 w).2) = finP (f (refW w).1, (refW w).2) := by
  have := refW_eq w
  rw [← this.1]
  by_cases h : (refW w).2 = 0
  · rw [this.2 h]
  · rw [finP_err h, finP_err h]

theorem numR0 (a : Wd) : numR 0 a = numP a := by unfold numR; rw [if_pos rfl]

/-- while cases are read -/
def RoL (h : Heap) (A O : Nat) (wt : Int) (wv : CV) (l : List Wd) (m : Nat) (e : Env) (h' : Heap) : Prop :=
  ∃ (i : Nat) (acc : List Case) (e1 : Int) (cv : CV), (∃ r, e = (2, .ptr A 0) :: (4, wv) :: (5, .int .i64 e1) :: (6, .ptr O 0) :: (7, .int .i64 i) :: r) ∧ RoH h A O ⟨7, 0, 0, wt, acc⟩ cv wv l h' ∧ 2 ≤ i ∧ acc.length ≤ i ∧ i ≤ l.length + 3 ∧ m = l.length + 3 - i ∧
    (e1 = 0 → i ≤ l.length ∧ shapedP (l.drop i) = true ∧ refRun (l.drop 2) [] = refRun (l.drop i) acc) ∧ (e1 ≠ 0 → refRun (l.drop 2) [] = (acc, e1))

theorem RoH.new {h h1 h2 : Heap} {A O : Nat} {x : OpV} {cv wv : CV} {l : List Wd} (q : RoH h A O x cv wv l h1) (k : Keep (fun b => b = h1.length) h1 h2) : RoH h A O x cv wv l h2 :=
  q.on (k.mono fun i hi e => by omega)

theorem clamp40_if (n : Int) : clamp40 n = if n < -1099511627776 ∨ 1099511627776 < n then -1 else n := rfl

/-- one case read -/
structure RoC (h : Heap) (A O b : Nat) (x : OpV) (cv wv : CV) (l : List Wd) (i : Nat) (n : Int) (C : Case) (e2 : Int) (i2 : Nat) (h' : Heap) : Prop where
  q : RoH h A O x cv wv l h'
  c : h'[b]? = some (.arr (caL C) .tight)
  d : (at_ l i = wSend ∧ C = ⟨true, clamp40 n, (numP (at_ l (i + 2))).1⟩ ∧ e2 = (numP (at_ l (i + 2))).2 ∧ i2 = i + 1) ∨ (at_ l i ≠ wSend ∧ C = ⟨false, clamp40 n, 0⟩ ∧ e2 = 0 ∧ i2 = i)

theorem refParse_mid (lp : LP p) {s : Wd} {h h' : Heap} {e : Env} (m : RoM h s e h') : W p (front 2 (back 6 S.b244)) e h' (midQ (RoN h s) (retQ [.cell (some 5) 2, .t 3] (ParK h (parseP s)))) := by
  obtain ⟨A, O, kk, wv, l, ⟨rr, rfl⟩, q, h1, h9, hl0, hc, hP⟩ := m
  unfold S.b244 ParK
  simp only [front, back]
  have ca : ∀ l, (CV.agg l).cells = l := fun _ => rfl
  have zz : ([.int .i64 0, .int .i64 0, .int .i64 0, .int .i64 0, .nils] : List CV) = oCells op0 .nils := rfl
  simp only [zz]
  have zb : fillC (oCells op0 .nils) [] = some (oCells op0 .nils) := rfl
  have lE : ∀ x cv, (oCells x cv).length = 5 := fun _ _ => rfl
  have stA : ∀ {H' : Heap}, H'[A]? = some (.arr (oCells op0 .nils) .tight) → storeAt H' A 0 (oCells op0 .nils) = some (H'.set A (.arr (oCells op0 .nils) .tight)) := fun g => sto g rfl rfl
  have ret0 : ∀ {H' : Heap} {x cv}, RoH h A O x cv wv l H' → loadAt (H'.set A (.arr (oCells op0 .nils) .tight)) A 0 (some 5) = some (.agg (oCells op0 .nils)) ∧ Keep NoneOf h (H'.set A (.arr (oCells op0 .nils) .tight)) := fun {H' x cv} q =>
    ⟨ldw (get_set_self (lt_of_get q.a)) rfl, q.k.then (Keep.set (S := fun b => b = A) _ _ rfl) fun b hb e => by have := q.a0; omega⟩
  have rp0 : ∀ H' : Heap, opC.rep H' (From h) (oCells op0 .nils) op0 := fun H' => ⟨.nils, rfl, Sl.nil⟩
  have hset1 : ∀ (x : OpV) (cv v : CV), (oCells x cv).set 1 v = [.int .i64 x.kind, v, .int .i64 x.v, .int .i64 x.wait, cv] := fun _ _ _ => rfl
  have hset2 : ∀ (x : OpV) (cv v : CV), (oCells x cv).set 2 v = [.int .i64 x.kind, .int .i64 x.n, v, .int .i64 x.wait, cv] := fun _ _ _ => rfl
  have hset3 : ∀ (x : OpV) (cv v : CV), (oCells x cv).set 3 v = [.int .i64 x.kind, .int .i64 x.n, .int .i64 x.v, v, cv] := fun _ _ _ => rfl
  have hll : 0 < l.length := List.length_pos_iff.2 hl0
  have lO := ld q.o
  have hlt : l.tail.length + 1 = l.length := by rw [List.length_tail]; omega
  have num : ∀ {H' : Heap} {i : Nat} {K : CV → Heap → Prop}, i < l.length → (∀ h2, Keep NoneOf H' h2 → K (.tup [.int .i64 (numP (at_ l i)).1, .int .i64 (numP (at_ l i)).2]) h2) → WF p 95 [.str (at_ l i)] H' K := fun {H' i K} hi k => by
    have hat : at_ l i = l[i] := by simp [at_, List.getElem?_eq_getElem hi]
    refine (refNumber_spec lp (by rw [hat]; exact q.w _ (List.getElem_mem hi))).mono fun r h2 hr => ?_
    rw [hr.1]
    exact k h2 hr.2
  have wai : ∀ {H' : Heap} {i : Nat} {K : CV → Heap → Prop}, i < l.length → (∀ h2, Keep NoneOf H' h2 → K (.tup [.int .i64 (refW (at_ l i)).1, .int .i64 (refW (at_ l i)).2]) h2) → WF p 264 [.str (at_ l i)] H' K := fun {H' i K} hi k => by
    have hat : at_ l i = l[i] := by simp [at_, List.getElem?_eq_getElem hi]
    refine (refParseWait_spec lp (by rw [hat]; exact q.w _ (List.getElem_mem hi))).mono fun r h2 hr => ?_
    rw [hr.1]
    exact k h2 hr.2
  have at1 : ∀ i, at_ l.tail i = at_ l (i + 1) := fun i => tail_at
  unfold countP at hc
  by_cases h4 : kk = 4
  · subst h4
    simp at hc
    have l4 : l.length = 4 := by omega
    have hP : parseP s = finP (⟨4, (numP (at_ l 1)).1, (numR (numP (at_ l 1)).2 (at_ l 2)).1, (waitR (numR (numP (at_ l 1)).2 (at_ l 2)).2 (at_ l 3)).1, []⟩, (waitR (numR (numP (at_ l 1)).2 (at_ l 2)).2 (at_ l 3)).2) := by
      rw [hP]
      unfold readP
      rw [if_pos rfl]
      simp only [at1, numR0, Nat.zero_add, Nat.reduceAdd]
    obtain ⟨b1, o1, x1, y1⟩ := q.s.word (i := 1) (by omega)
    have x1 : idxAddrV 1 wv (.int .i64 1) = some (.ptr b1 o1) := x1
    simp [lO, x1, y1]
    refine num (by omega) fun h2 k2 => ?_
    have q2 := q.on k2
    have s2 := sto1 q2.o (o := 1) (v := .int .i64 (numP (at_ l 1)).1) (by rw [lE]; omega) rfl
    rw [hset1] at s2
    have q3 := q2.lay ⟨4, (numP (at_ l 1)).1, 0, 0, []⟩ rfl
    change RoH h A O _ _ _ _ (h2.set O (.arr [.int .i64 4, .int .i64 (numP (at_ l 1)).1, .int .i64 0, .int .i64 0, .nils] .tight)) at q3
    simp [s2, ca]
    generalize h2.set O (.arr [.int .i64 4, .int .i64 (numP (at_ l 1)).1, .int .i64 0, .int .i64 0, .nils] .tight) = H3 at *
    by_cases e1 : (numP (at_ l 1)).2 = 0
    · rw [e1] at hP
      rw [numR0] at hP
      have lO3 := ld q3.o
      obtain ⟨b2, o2, x2, y2⟩ := q3.s.word (i := 2) (by omega)
      have x2 : idxAddrV 1 wv (.int .i64 2) = some (.ptr b2 o2) := x2
      simp [e1, lO3, x2, y2]
      refine num (by omega) fun h4 k4 => ?_
      have q4 := q3.on k4
      have s4 := sto1 q4.o (o := 2) (v := .int .i64 (numP (at_ l 2)).1) (by rw [lE]; omega) rfl
      rw [hset2] at s4
      have q5 := q4.lay ⟨4, (numP (at_ l 1)).1, (numP (at_ l 2)).1, 0, []⟩ rfl
      change RoH h A O _ _ _ _ (h4.set O (.arr [.int .i64 4, .int .i64 (numP (at_ l 1)).1, .int .i64 (numP (at_ l 2)).1, .int .i64 0, .nils] .tight)) at q5
      simp [s4, ca]
      generalize h4.set O (.arr [.int .i64 4, .int .i64 (numP (at_ l 1)).1, .int .i64 (numP (at_ l 2)).1, .int .i64 0, .nils] .tight) = H5 at *
      by_cases e2 : (numP (at_ l 2)).2 = 0
      · rw [e2] at hP
        obtain ⟨b3, o3, x3, y3⟩ := q5.s.word (i := 3) (by omega)
        have x3 : idxAddrV 1 wv (.int .i64 3) = some (.ptr b3 o3) := x3
        simp [e2, x3, y3]
        refine wai (by omega) fun h6 k6 => ?_
        have q6 := q5.on k6
        have s6 := sto1 q6.o (o := 3) (v := .int .i64 (refW (at_ l 3)).1) (by rw [lE]; omega) rfl
        rw [hset3] at s6
        have q7 := q6.lay ⟨4, (numP (at_ l 1)).1, (numP (at_ l 2)).1, (refW (at_ l 3)).1, []⟩ rfl
        simp [s6, ca]
        exact ⟨A, O, _, _, wv, l, _, ⟨_, _, _, rfl⟩, rfl, rfl, rfl, q7, hP.trans (finW (fun w => ⟨4, (numP (at_ l 1)).1, (numP (at_ l 2)).1, w, []⟩) _)⟩
      · rw [waitR_err e2, finP_err e2] at hP
        simp [e2]
        exact ⟨A, O, _, _, wv, l, _, ⟨_, _, _, rfl⟩, rfl, rfl, rfl, q5, hP.trans (finP_err e2).symm⟩
    · rw [numR_err e1, waitR_err e1, finP_err e1] at hP
      obtain ⟨z1, z2⟩ := ret0 q3
      rw [hP]
      simp [e1, zb, lE, stA q3.a, z1]
      exact ⟨rp0 _, z2⟩
  rw [if_neg h4] at hc
  by_cases h5 : kk = 5
  · subst h5
    simp at hc
    have l4 : l.length = 3 := by omega
    have hP : parseP s = finP (⟨5, (numP (at_ l 1)).1, 0, (waitR (numP (at_ l 1)).2 (at_ l 2)).1, []⟩, (waitR (numP (at_ l 1)).2 (at_ l 2)).2) := by
      rw [hP]
      unfold readP
      rw [if_neg h4, if_pos rfl]
      simp only [at1, numR0, Nat.zero_add, Nat.reduceAdd]
    obtain ⟨b1, o1, x1, y1⟩ := q.s.word (i := 1) (by omega)
    have x1 : idxAddrV 1 wv (.int .i64 1) = some (.ptr b1 o1) := x1
    simp [lO, x1, y1]
    refine num (by omega) fun h2 k2 => ?_
    have q2 := q.on k2
    have s2 := sto1 q2.o (o := 1) (v := .int .i64 (numP (at_ l 1)).1) (by rw [lE]; omega) rfl
    rw [hset1] at s2
    have q3 := q2.lay ⟨5, (numP (at_ l 1)).1, 0, 0, []⟩ rfl
    change RoH h A O _ _ _ _ (h2.set O (.arr [.int .i64 5, .int .i64 (numP (at_ l 1)).1, .int .i64 0, .int .i64 0, .nils] .tight)) at q3
    simp [s2, ca]
    generalize h2.set O (.arr [.int .i64 5, .int .i64 (numP (at_ l 1)).1, .int .i64 0, .int .i64 0, .nils] .tight) = H3 at *
    by_cases e1 : (numP (at_ l 1)).2 = 0
    · rw [e1] at hP
      have lO3 := ld q3.o
      obtain ⟨b2, o2, x2, y2⟩ := q3.s.word (i := 2) (by omega)
      have x2 : idxAddrV 1 wv (.int .i64 2) = some (.ptr b2 o2) := x2
      simp [e1, lO3, x2, y2]
      refine wai (by omega) fun h6 k6 => ?_
      have q6 := q3.on k6
      have s6 := sto1 q6.o (o := 3) (v := .int .i64 (refW (at_ l 2)).1) (by rw [lE]; omega) rfl
      rw [hset3] at s6
      have q7 := q6.lay ⟨5, (numP (at_ l 1)).1, 0, (refW (at_ l 2)).1, []⟩ rfl
      simp [s6, ca]
      exact ⟨A, O, _, _, wv, l, _, ⟨_, _, _, rfl⟩, rfl, rfl, rfl, q7, hP.trans (finW (fun w => ⟨5, (numP (at_ l 1)).1, 0, w, []⟩) _)⟩
    · rw [waitR_err e1, finP_err e1] at hP
      obtain ⟨z1, z2⟩ := ret0 q3
      rw [hP]
      simp [e1, zb, lE, stA q3.a, z1]
      exact ⟨rp0 _, z2⟩
  rw [if_neg h5] at hc
  by_cases h7 : kk = 7
  · subst h7
    have hc7 : countP 7 l.tail = true := by unfold countP; rw [if_neg h4, if_neg h5]; exact hc
    have hl2 : 2 ≤ l.length ∧ shapedP (l.drop 2) = true := by
      match l, hc with
      | [a], h => simp at h
      | a :: b :: r, h => exact ⟨by simp, h⟩
    have htt : l.tail.tail = l.drop 2 := by cases l with | nil => rfl | cons a r => simp
    rw [← ref_eq hc7] at hP
    unfold refP at hP
    rw [if_pos rfl, htt] at hP
    simp only [at1, Nat.zero_add, Nat.reduceAdd] at hP
    have hW := refW_eq (at_ l 1)
    rw [← hW.1] at hP
    obtain ⟨b1, o1, x1, y1⟩ := q.s.word (i := 1) (by omega)
    have x1 : idxAddrV 1 wv (.int .i64 1) = some (.ptr b1 o1) := x1
    simp [lO, x1, y1]
    refine wai (by omega) fun h2 k2 => ?_
    have q2 := q.on k2
    have s2 := sto1 q2.o (o := 3) (v := .int .i64 (refW (at_ l 1)).1) (by rw [lE]; omega) rfl
    rw [hset3] at s2
    have q3 := q2.lay ⟨7, 0, 0, (refW (at_ l 1)).1, []⟩ rfl
    change RoH h A O _ _ _ _ (h2.set O (.arr [.int .i64 7, .int .i64 0, .int .i64 0, .int .i64 (refW (at_ l 1)).1, .nils] .tight)) at q3
    simp [s2, ca]
    generalize h2.set O (.arr [.int .i64 7, .int .i64 0, .int .i64 0, .int .i64 (refW (at_ l 1)).1, .nils] .tight) = H3 at *
    have fin : ∀ acc er, (refW (at_ l 1)).2 = 0 → refRun (l.drop 2) [] = (acc, er) → parseP s = finP (⟨7, 0, 0, (refW (at_ l 1)).1, acc⟩, er) := fun acc er h0 hr => by
      rw [hP, if_neg (by simpa using h0), hr, hW.2 h0]
    by_cases e0 : (refW (at_ l 1)).2 = 0
    case neg =>
      rw [if_pos e0] at hP
      refine W_loop (fun m e h' => m = 0 ∧ e = [(2, .ptr A 0), (4, wv), (5, .int .i64 (refW (at_ l 1)).2), (6, .ptr O 0), (7, .int .i64 2)] ∧ h' = H3) ?_ 0 ⟨rfl, rfl, rfl⟩
      rintro m e h' ⟨rfl, rfl, rfl⟩
      have nl := q3.s.len (by decide)
      have hr : parseP s = finP (⟨7, 0, 0, (refW (at_ l 1)).1, []⟩, (refW (at_ l 1)).2) := hP.trans (finP_err e0).symm
      by_cases hlt : (2 : Int) < l.length
      · have hlt2 : 2 < l.length := by omega
        simp [nl, hlt, hlt2, e0]
        exact ⟨A, O, _, _, wv, l, _, ⟨_, _, _, rfl⟩, rfl, rfl, rfl, q3, hr⟩
      · have hlt2 : ¬ 2 < l.length := by omega
        simp [nl, hlt, hlt2, e0]
        exact ⟨A, O, _, _, wv, l, _, ⟨_, _, _, rfl⟩, rfl, rfl, rfl, q3, hr⟩
    rw [e0]
    clear hP
    refine W_loop (RoL h A O (refW (at_ l 1)).1 wv l) ?_ (l.length + 1) ⟨2, [], 0, .nils, ⟨_, rfl⟩, q3, by omega, by simp, by omega, by omega, fun _ => ⟨hl2.1, hl2.2, rfl⟩, fun hn => absurd rfl hn⟩
    generalize (refW (at_ l 1)).1 = wt at *
    clear q q2 q3 lO s2 x1 y1 stA ret0 k2 hW
    rintro m e H ⟨i, acc, e1, cv, ⟨r2, rfl⟩, q, hi2, hacc, hi3, rfl, hz, hnz⟩
    have nl := q.s.len (by decide)
    have qn := q.n
    by_cases he : e1 = 0
    case neg =>
      have hr := hnz he
      by_cases hlt : (i : Int) < l.length
      · have hlt2 : i < l.length := by omega
        simp [nl, hlt, hlt2, he]
        exact ⟨A, O, _, _, wv, l, _, ⟨_, _, _, rfl⟩, rfl, rfl, rfl, q, fin _ _ e0 hr⟩
      · have hlt2 : ¬ i < l.length := by omega
        simp [nl, hlt, hlt2, he]
        exact ⟨A, O, _, _, wv, l, _, ⟨_, _, _, rfl⟩, rfl, rfl, rfl, q, fin _ _ e0 hr⟩
    subst he
    obtain ⟨z1, z2, z3⟩ := hz rfl
    by_cases hie : i = l.length
    · subst hie
      rw [List.drop_length] at z3
      simp [nl]
      exact ⟨A, O, _, _, wv, l, _, ⟨_, _, _, rfl⟩, rfl, rfl, rfl, q, fin _ _ e0 z3⟩
    have hlt2 : i < l.length := by omega
    have hlt : (i : Int) < l.length := by omega
    have hdn : l.drop i ≠ [] := fun hq => by have := congrArg List.length hq; rw [List.length_drop] at this; simp at this; omega
    have hw1 : IntKind.i64.wrap ((i : Int) + 1) = ((i + 1 : Nat) : Int) := by rw [w64 (by omega) (by omega)]; omega
    have hw2 : IntKind.i64.wrap ((i : Int) + 2) = ((i + 2 : Nat) : Int) := by rw [w64 (by omega) (by omega)]; omega
    -- what stands there
    have hst : (at_ l i = wSend ∧ i + 3 ≤ l.length ∧ shapedP (l.drop (i + 3)) = true ∧ refRun (l.drop i) acc = if (numP (at_ l (i + 1))).2 ≠ 0 then (acc, (numP (at_ l (i + 1))).2) else if (numP (at_ l (i + 2))).2 = 0 then refRun (l.drop (i + 3)) (acc ++ [⟨true, clamp40 (numP (at_ l (i + 1))).1, (numP (at_ l (i + 2))).1⟩]) else (acc ++ [⟨true, clamp40 (numP (at_ l (i + 1))).1, (numP (at_ l (i + 2))).1⟩], (numP (at_ l (i + 2))).2)) ∨
        (at_ l i ≠ wSend ∧ i + 2 ≤ l.length ∧ shapedP (l.drop (i + 2)) = true ∧ refRun (l.drop i) acc = if (numP (at_ l (i + 1))).2 ≠ 0 then (acc, (numP (at_ l (i + 1))).2) else refRun (l.drop (i + 2)) (acc ++ [⟨false, clamp40 (numP (at_ l (i + 1))).1, 0⟩])) := by
      have ha0 : at_ (l.drop i) 0 = at_ l i := by simp [at_]
      have ha1 : at_ (l.drop i) 1 = at_ l (i + 1) := by simp [at_]
      have ha2 : at_ (l.drop i) 2 = at_ l (i + 2) := by simp [at_]
      have hd2 : l.drop (i + 2) = (l.drop i).drop 2 := by rw [List.drop_drop]
      have hd3 : l.drop (i + 3) = (l.drop i).drop 3 := by rw [List.drop_drop]
      have hln : (l.drop i).length = l.length - i := List.length_drop
      rw [← ha0, ← ha1, ← ha2, hd2, hd3]
      rcases shaped_cases z2 with hq | ⟨a, b, r, hq, hr⟩ | ⟨a, r, hq, hr⟩
      · exact absurd hq hdn
      · rw [hq] at hln ⊢
        simp at hln
        exact .inl ⟨rfl, by omega, hr, refRun_send⟩
      · rw [hq] at hln ⊢
        simp at hln
        exact .inr ⟨recv_send, by omega, hr, refRun_recv⟩
    have hl1 : i + 1 < l.length := by rcases hst with h | h <;> omega
    obtain ⟨b1, o1, x1, y1⟩ := q.s.word hl1
    simp [nl, hlt, hlt2, hw1]
    rw [show ((i : Int) + 1) = ((i + 1 : Nat) : Int) by omega]
    simp only [x1]
    simp [y1]
    refine num hl1 fun h4 k4 => ?_
    have q4 := q.on k4
    clear x1 y1
    by_cases hf : (numP (at_ l (i + 1))).2 = 0
    case neg =>
      have hr : refRun (l.drop 2) [] = (acc, (numP (at_ l (i + 1))).2) := by
        rw [z3]
        rcases hst with h | h
        · rw [h.2.2.2, if_pos hf]
        · rw [h.2.2.2, if_pos hf]
      simp [hf]
      exact ⟨A, O, _, _, wv, l, _, ⟨_, _, _, rfl⟩, rfl, rfl, rfl, q4, fin _ _ e0 hr⟩
    simp [hf]
    refine WO_cut (fun e' => e'.get 2 = some (.ptr A 0) ∧ e'.get 4 = some wv ∧ e'.get 5 = some (.int .i64 0) ∧ e'.get 6 = some (.ptr O 0) ∧ e'.get 7 = some (.int .i64 i) ∧ e'.get 8 = some (.int .i64 (numP (at_ l (i + 1))).1) ∧ e'.get 127 = some (.bool (decide ((numP (at_ l (i + 1))).1 < -1099511627776 ∨ 1099511627776 < (numP (at_ l (i + 1))).1)))) ?_ ?_
    · by_cases a1 : (numP (at_ l (i + 1))).1 < -1099511627776
      · simp [a1]
      by_cases a2 : 1099511627776 < (numP (at_ l (i + 1))).1
      all_goals simp [a1, a2]
    rintro e' ⟨p2, p4, p5, p6, p7, p8, p127⟩
    simp only [p2, p4, p5, p6, p7, p8, p127]
    simp
    generalize hB : (decide ((numP (at_ l (i + 1))).1 < -1099511627776) || decide (1099511627776 < (numP (at_ l (i + 1))).1)) = B at *
    refine W_to (fun env H' => H' = h4 ∧ ∃ r, env = (2, .ptr A 0) :: (4, wv) :: (5, .int .i64 0) :: (6, .ptr O 0) :: (7, .int .i64 i) :: (8, .int .i64 (clamp40 (numP (at_ l (i + 1))).1)) :: r) ?_ ?_
    · cases B with
      | true =>
        have : clamp40 (numP (at_ l (i + 1))).1 = -1 := by rw [clamp40_if, if_pos (by simpa using hB)]
        rw [this]
        simp
      | false =>
        have : clamp40 (numP (at_ l (i + 1))).1 = (numP (at_ l (i + 1))).1 := by rw [clamp40_if, if_neg (by simpa using hB)]
        rw [this]
        simp
    clear p2 p4 p5 p6 p7 p8 p127 hB e'
    rintro e' H' ⟨rfl, r3, rfl⟩
    generalize hn : (numP (at_ l (i + 1))).1 = n at *
    have hfc : fillC [.bool false, .int .i64 0, .int .i64 0] [(1, 1, .int .i64 (clamp40 n))] = some (caL ⟨false, clamp40 n, 0⟩) := rfl
    have hlc : ∀ c, (caL c).length = 3 := fun _ => rfl
    have st := store_new (h := H') (z := [.bool false, .int .i64 0, .int .i64 0]) (row := caL ⟨false, clamp40 n, 0⟩) rfl rfl
    have kap : Keep (fun b => b = H'.length) H' (H' ++ [.arr (caL ⟨false, clamp40 n, 0⟩) .tight]) := Keep.app _ _ _
    have q5 := q4.new kap
    have gC : (H' ++ [Obj.arr (caL ⟨false, clamp40 n, 0⟩) .tight])[H'.length]? = some (.arr (caL ⟨false, clamp40 n, 0⟩) .tight) := by simp
    obtain ⟨b2, o2, x2, y2⟩ := q5.s.word hlt2
    simp [hfc, ca, hlc, st, x2, y2]
    refine W_to (fun env H5 => ∃ (C : Case) (e2 : Int) (i2 : Nat) (r : Env), env = (2, .ptr A 0) :: (4, wv) :: (5, .int .i64 e2) :: (6, .ptr O 0) :: (7, .int .i64 i2) :: (10, .ptr H'.length 0) :: r ∧ RoC h A O H'.length ⟨7, 0, 0, wt, acc⟩ cv wv l i n C e2 i2 H5) ?_ ?_
    · by_cases hs : at_ l i = wSend
      · have hl3 : i + 2 < l.length := by
          rcases hst with hq | hq
          · omega
          · exact absurd hs hq.1
        have s6 := sto1 gC (o := 0) (v := .bool true) (by rw [hlc]; omega) rfl
        have hca : (caL ⟨false, clamp40 n, 0⟩).set 0 (.bool true) = caL ⟨true, clamp40 n, 0⟩ := rfl
        rw [hca] at s6
        rw [show (H' ++ [Obj.arr (caL ⟨false, clamp40 n, 0⟩) .tight]).set H'.length (Obj.arr (caL ⟨true, clamp40 n, 0⟩) .tight) = H' ++ [Obj.arr (caL ⟨true, clamp40 n, 0⟩) .tight] by simp] at s6
        have kap6 : Keep (fun b => b = H'.length) H' (H' ++ [Obj.arr (caL ⟨true, clamp40 n, 0⟩) .tight]) := Keep.app _ _ _
        have q6 := q4.new kap6
        have gC6 : (H' ++ [Obj.arr (caL ⟨true, clamp40 n, 0⟩) .tight])[H'.length]? = some (.arr (caL ⟨true, clamp40 n, 0⟩) .tight) := by simp
        obtain ⟨b3, o3, x3, y3⟩ := q6.s.word hl3
        simp [hs, s6, hw2]
        generalize H' ++ [Obj.arr (caL ⟨true, clamp40 n, 0⟩) .tight] = H6 at *
        rw [show ((i : Int) + 2) = ((i + 2 : Nat) : Int) by omega]
        simp only [x3]
        simp [y3]
        refine num hl3 fun H7 k7 => ?_
        have gC7 := k7.at gC6 id
        have s8 := sto1 gC7 (o := 2) (v := .int .i64 (numP (at_ l (i + 2))).1) (by rw [hlc]; omega) rfl
        have hca2 : (caL ⟨true, clamp40 n, 0⟩).set 2 (.int .i64 (numP (at_ l (i + 2))).1) = caL ⟨true, clamp40 n, (numP (at_ l (i + 2))).1⟩ := rfl
        rw [hca2] at s8
        have k8 : Keep (fun b => b = H'.length) H7 (H7.set H'.length (.arr (caL ⟨true, clamp40 n, (numP (at_ l (i + 2))).1⟩) .tight)) := Keep.set _ _ rfl
        have q8 := q4.new ((kap6.trans (k7.mono fun _ _ hn => hn.elim)).trans k8)
        simp [s8, hw1]
        exact ⟨_, _, i + 1, ⟨rfl, rfl⟩, ⟨q8, get_set_self (lt_of_get gC7), .inl ⟨hs, rfl, rfl, rfl⟩⟩⟩
      · simp [hs]
        exact ⟨_, 0, i, ⟨rfl, rfl⟩, ⟨q5, gC, .inr ⟨hs, rfl, rfl, rfl⟩⟩⟩
    clear q5 gC x2 y2 st kap
    rintro e' H5 ⟨C, e2, i2, r4, rfl, c⟩
    have lO5 := ld c.q.o
    have l10 := ldw c.c (hlc C)
    have hf3 : fillC [.bool false, .int .i64 0, .int .i64 0] [(0, 3, .agg (caL C))] = some (caL C) := rfl
    have htc : List.take 3 (caL C) = caL C := rfl
    have hwi : IntKind.i64.wrap ((i2 : Int) + 2) = ((i2 + 2 : Nat) : Int) := by
      have : i2 ≤ i + 1 := by rcases c.d with h | h <;> omega
      rw [w64 (by omega) (by omega)]; omega
    simp [lO5, l10, hf3, spread, cellsAt, hlc, htc]
    refine c.q.push (c := C) (by simp only; omega) rfl ?_
    intro cv' H6 g6 hsc q6
    have s6 := sto1 g6 (o := 4) (v := cv') (by rw [lE]; omega) hsc
    have hset4 : (oCells ⟨7, 0, 0, wt, acc⟩ cv).set 4 cv' = oCells ⟨7, 0, 0, wt, acc⟩ cv' := rfl
    rw [hset4] at s6
    have fs := fits_scalar hsc
    have cs := CV.cells_scalar hsc
    simp [fs, cs, s6, hwi]
    have hd := c.d
    refine ⟨l.length + 3 - (i2 + 2), by rcases hd with hq | hq <;> omega, i2 + 2, acc ++ [C], e2, cv', ⟨_, rfl⟩, q6, by omega, by rcases hd with hq | hq <;> simp <;> omega, ?_, rfl, ?_, ?_⟩
    · rcases hst with hq | hq <;> rcases hd with hr | hr
      · omega
      · exact absurd hq.1 hr.1
      · exact absurd hr.1 hq.1
      · omega
    · intro h0
      rcases hst with hq | hq <;> rcases hd with hr | hr
      · rw [hr.2.2.2]
        refine ⟨by omega, hq.2.2.1, ?_⟩
        rw [z3, hq.2.2.2, if_neg (by simpa using hf), if_pos (by rw [← hr.2.2.1]; exact h0), hr.2.1]
      · exact absurd hq.1 hr.1
      · exact absurd hr.1 hq.1
      · rw [hr.2.2.2]
        refine ⟨by omega, hq.2.2.1, ?_⟩
        rw [z3, hq.2.2.2, if_neg (by simpa using hf), hr.2.1]
    · intro h0
      rcases hst with hq | hq <;> rcases hd with hr | hr
      · rw [z3, hq.2.2.2, if_neg (by simpa using hf), if_neg (by rw [← hr.2.2.1]; exact h0), hr.2.1, hr.2.2.1]
      · exact absurd hq.1 hr.1
      · exact absurd hr.1 hq.1
      · exact absurd hr.2.2.1 h0
  rw [if_neg h7] at hc
  by_cases h9 : kk = 9
  · subst h9
    have hP : parseP s = finP (⟨9, 0, 0, 0, []⟩, 0) := hP
    simp [lO]
    exact ⟨A, O, _, _, wv, l, _, ⟨_, _, _, rfl⟩, rfl, rfl, rfl, q, hP⟩
  rw [if_neg h9] at hc
  simp at hc
  have hP : parseP s = finP (⟨kk, (numP (at_ l 1)).1, 0, 0, []⟩, (numP (at_ l 1)).2) := by
    rw [hP]
    unfold readP
    rw [if_neg h4, if_neg h5, if_neg h7, if_neg h9]
    simp only [at1, numR0, Nat.zero_add, Nat.reduceAdd]
  obtain ⟨b1, o1, x1, y1⟩ := q.s.word (i := 1) (by omega)
  have x1 : idxAddrV 1 wv (.int .i64 1) = some (.ptr b1 o1) := x1
  simp [lO, x1, y1, h9, h7]
  refine num (by omega) fun h2 k2 => ?_
  have q2 := q.on k2
  have s2 := sto1 q2.o (o := 1) (v := .int .i64 (numP (at_ l 1)).1) (by rw [lE]; omega) rfl
  rw [hset1] at s2
  have q3 := q2.lay ⟨kk, (numP (at_ l 1)).1, 0, 0, []⟩ rfl
  change RoH h A O _ _ _ _ (h2.set O (.arr [.int .i64 kk, .int .i64 (numP (at_ l 1)).1, .int .i64 0, .int .i64 0, .nils] .tight)) at q3
  simp [s2, ca]
  generalize h2.set O (.arr [.int .i64 kk, .int .i64 (numP (at_ l 1)).1, .int .i64 0, .int .i64 0, .nils] .tight) = H3 at *
  by_cases e1 : (numP (at_ l 1)).2 = 0
  · have lO3 := ld q3.o
    rw [e1] at hP
    simp [e1, lO3, h4, h5, h7]
    exact ⟨A, O, _, _, wv, l, _, ⟨_, _, _, rfl⟩, rfl, rfl, rfl, q3, hP⟩
  · rw [finP_err e1] at hP
    obtain ⟨z1, z2⟩ := ret0 q3
    rw [hP]
    simp [e1, zb, lE, stA q3.a, z1]
    exact ⟨rp0 _, z2⟩

theorem refParse_tail (lp : LP p) {s : Wd} {h h' : Heap} {e : Env} (m : RoN h s e h') : W p (back 8 S.b244) e h' (retQ [.cell (some 5) 2, .t 3] (ParK h (parseP s))) := by
  obtain ⟨A, O, X, cv, wv, l, e1, ⟨k0, v0, r0, rfl⟩, g2, g5, g6, q, hP⟩ := m
  simp only [Env.get_cons] at g2 g5 g6
  unfold S.b244 ParK
  simp only [back]
  rw [hP]
  have l9 := ldw q.o (show (oCells X cv).length = 5 from rfl)
  have hsc := q.ow.scalar
  have fsc : (oCells X cv).all CV.scalar = true := by simp only [oCells, List.all_cons, List.all_nil, hsc]; rfl
  have lE : ∀ x cv, (oCells x cv).length = 5 := fun _ _ => rfl
  have ca : ∀ l, (CV.agg l).cells = l := fun _ => rfl
  have gX : ∀ H' : Heap, Keep NoneOf h H' → H'[A]? = some (.arr (oCells op0 .nils) .tight) → ∀ (y : OpV) (c : CV), (oCells y c).all CV.scalar = true → storeAt H' A 0 (oCells y c) = some (H'.set A (.arr (oCells y c) .tight)) ∧ loadAt (H'.set A (.arr (oCells y c) .tight)) A 0 (some 5) = some (.agg (oCells y c)) ∧ Keep NoneOf h (H'.set A (.arr (oCells y c) .tight)) := fun H' k ga y c hc =>
    ⟨sto ga rfl hc, ldw (get_set_self (lt_of_get ga)) rfl, k.then (Keep.set (S := fun b => b = A) _ _ rfl) fun b hb e => by have := q.a0; omega⟩
  have zz : ([.int .i64 0, .int .i64 0, .int .i64 0, .int .i64 0, .nils] : List CV) = oCells op0 .nils := rfl
  simp only [zz]
  have zb : fillC (oCells op0 .nils) [] = some (oCells op0 .nils) := rfl
  have rp0 : ∀ H' : Heap, opC.rep H' (From h) (oCells op0 .nils) op0 := fun H' => ⟨.nils, rfl, Sl.nil⟩
  have slX : ∀ {H' : Heap} {S : Nat → Prop}, Keep S h' H' → (∀ b, cv.blk = some b → ¬ S b) → opC.rep H' (From h) (oCells X cv) X := fun {H' S} k hS => by
    refine ⟨cv, rfl, ?_⟩
    refine (q.ow.keep k hS fun _ hb => hb.elim).sl.mono fun b hb => ?_
    rcases hb with hb | hb
    · exact hb.elim
    · exact (q.ob b hb).1
  by_cases he : e1 = 0
  · subst he
    have hch : finP (X, 0) = if opCheckP X = 0 then (X, 0) else (op0, opCheckP X) := by unfold finP; rw [if_pos rfl]
    rw [hch]
    simp [g2, g5, g6, l9]
    refine (refOpCheck_spec lp (slX (Keep.refl NoneOf h') fun _ _ => id)).mono ?_
    rintro r H2 ⟨rfl, k2⟩
    clear hch hP
    generalize opCheckP X = ck at *
    have q2 := q.on k2
    have l92 := ldw q2.o (show (oCells X cv).length = 5 from rfl)
    by_cases hc : ck = 0
    · subst hc
      obtain ⟨z1, z2, z3⟩ := gX H2 q2.k q2.a X cv fsc
      have k14 : Keep (fun b => b = A) h' (H2.set A (.arr (oCells X cv) .tight)) := (k2.mono fun _ _ hn => hn.elim).trans (Keep.set _ _ rfl)
      simp [l92, ca, lE, z1, z2]
      exact ⟨slX k14 fun b hb hn => (q.ob b hb).2.1 hn, z3⟩
    · obtain ⟨z1, z2, z3⟩ := gX H2 q2.k q2.a op0 .nils rfl
      simp [hc, zb, ca, lE, z1, z2]
      exact ⟨rp0 _, z3⟩
  · rw [finP_err he]
    obtain ⟨z1, z2, z3⟩ := gX h' q.k q.a op0 .nils rfl
    simp [g2, g5, g6, he, zb, ca, lE, z1, z2]
    exact ⟨rp0 _, z3⟩

theorem refParseOp_spec (lp : LP p) {s : Wd} {h : Heap} (hs : s.length ≤ 100000) : WF p 244 [.str s] h fun r h' => (∃ c, r = .tup [.agg c, .int .i64 (parseP s).2] ∧ opC.rep h' (From h) c (parseP s).1) ∧ Keep NoneOf h h' := by
  refine WF_of (by rw [lp.pg]; exact S.pg244) (lp.no ⟨rfl, rfl⟩) ?_
  show W p S.b244 [(0, .str s)] h (retQ [.cell (some 5) 2, .t 3] (ParK h (parseP s)))
  refine W_front 6 _ _ (refParse_head lp hs) fun e h1 m1 => ?_
  refine W_front 2 _ _ (refParse_mid lp m1) fun e h2 m2 => ?_
  exact refParse_tail lp m2

end Go.Cl

namespace Go.Cl
open Go
set_option linter.unusedSimpArgs false
set_option linter.unusedVariables false
set_option maxHeartbeats 2000000

variable {p : PP}

theorem numR_inI (e : Int) (a : Wd) : inI (numR e a).1 := by
  unfold numR
  split
  · exact numP_in a
  · exact ⟨by simp, by simp⟩

theorem runP_in : ∀ (n : Nat) (l : List Wd) (acc : List Case) (e : Int), l.length ≤ n → (∀ c ∈ acc, inI c.v) → ∀ c ∈ (runP l acc e).1, inI c.v := by
  intro n
  induction n with
  | zero =>
    intro l acc e hl ha
    have : l = [] := List.eq_nil_of_length_eq_zero (by omega)
    subst this
    exact ha
  | succ n ih =>
    intro l acc e hl ha
    match l, hl with
    | [], _ => exact ha
    | [_], _ => exact ha
    | [w, a], hl =>
      by_cases hw : w = wSend
      · rw [runP, if_pos hw]; exact ha
      · rw [runP, if_neg hw]
        intro c hc
        rcases List.mem_append.1 hc with hc | hc
        · exact ha c hc
        · simp at hc; subst hc; exact ⟨by simp, by simp⟩
    | w :: a :: b :: r, hl =>
      by_cases hw : w = wSend
      · subst hw
        rw [runP_send]
        refine ih _ _ _ (by simp at hl; omega) fun c hc => ?_
        rcases List.mem_append.1 hc with hc | hc
        · exact ha c hc
        · simp at hc; subst hc; exact numR_inI _ _
      · rw [runP_other hw]
        refine ih _ _ _ (by simp at hl ⊢; omega) fun c hc => ?_
        rcases List.mem_append.1 hc with hc | hc
        · exact ha c hc
        · simp at hc; subst hc; exact ⟨by simp, by simp⟩

theorem OpOk.In {x : OpV} (o : OpOk x) (f : x.fine) : x.In := by
  have hn := o.n0
  have hm := o.n1
  have h1 := leastOf_ge x.kind
  have h2 := mostOf_le x.kind
  have hc : ∀ c ∈ x.cases, inI c.chan := fun c hc => by
    by_cases h7 : x.kind = 7
    · have := caseBad_not (cases_valid (o.c7 h7) c hc)
      exact ⟨by omega, by omega⟩
    · rw [o.c h7] at hc; simp at hc
  refine ⟨⟨by omega, by omega⟩, f.1, ⟨by have := o.w0; omega, by have := o.w1; omega⟩, fun c hcm => ⟨hc c hcm, f.2 c hcm⟩, ?_⟩
  by_cases h7 : x.kind = 7
  · have := o.c7 h7
    unfold casesP at this
    split at this
    · omega
    · omega
  · rw [o.c h7]; simp

theorem op0_In : op0.In := ⟨⟨by decide, by decide⟩, ⟨by decide, by decide⟩, ⟨by decide, by decide⟩, fun c hc => by simp [op0] at hc, by simp [op0]⟩

theorem parseP_In (s : Wd) : (parseP s).1.In ∧ ((parseP s).2 = 0 → (parseP s).1.fine) := by
  have fin : ∀ (q : OpV × Int), q.1.fine → (finP q).1.In ∧ ((finP q).2 = 0 → (finP q).1.fine) := fun q hf => by
    unfold finP
    split
    · split
      · rename_i hc
        exact ⟨(opOk hc).In hf, fun _ => hf⟩
      · rename_i hc
        exact ⟨op0_In, fun h => absurd h hc⟩
    · rename_i hc
      exact ⟨op0_In, fun h => absurd h hc⟩
  have err : op0.In ∧ ((2 : Int) = 0 → op0.fine) := ⟨op0_In, fun h => by cases h⟩
  have z : inI 0 := ⟨by decide, by decide⟩
  unfold parseP
  split
  · exact err
  · exact err
  · unfold parseW
    split
    · exact err
    · refine fin _ ?_
      unfold readP
      repeat' split
      · exact ⟨numR_inI _ _, fun c hc => by simp at hc⟩
      · exact ⟨z, fun c hc => by simp at hc⟩
      · exact ⟨z, fun c hc => runP_in _ _ _ _ (Nat.le_refl _) (by simp) c hc⟩
      · exact ⟨z, fun c hc => by simp at hc⟩
      · exact ⟨z, fun c hc => by simp at hc⟩

/-! ### OpReads -/

theorem opReads_law (lp : LP p) (hp : p.pr = addKnown [218] lib) {s : Wd} {h : Heap} : WF p 243 [.str s] h fun r _ => r = .bool true := by
  refine WF_of (by rw [lp.pg]; exact S.pg243) (lp.no' hp ⟨rfl, rfl⟩) ?_
  show W p S.b243 _ _ (retQ [.t 2] _)
  unfold S.b243
  have ca : ∀ l, (CV.agg l).cells = l := fun _ => rfl
  simp
  refine WF_yes hp rfl ?_
  by_cases hl : (300 : Int) < s.length
  · simp [hl]
  simp [hl]
  have hI := parseP_In s
  have hT := fun (x : OpV) (he : parseP s = (x, 0)) => text_parse he
  obtain ⟨q, hq⟩ : ∃ q, parseP s = q := ⟨_, rfl⟩
  obtain ⟨x, e⟩ := q
  rw [hq] at hI
  have hIx : x.In := hI.1
  have hbig : x.cases.length ≤ big := by have := hIx.l; simp [big]; omega
  refine (opParse_spec lp (by omega)).mono ?_
  rintro r h1 ⟨⟨c1, rfl, r1⟩, k1⟩
  rw [hq] at r1 ⊢
  have r1 : opC.rep h1 (From h) c1 x := r1
  have l1 := opC.len r1
  have f1 := opC.flat r1
  have l1 : c1.length = 5 := l1
  have st1 := store_new (h := h1) (row := c1) (z := [.int .i64 0, .int .i64 0, .int .i64 0, .int .i64 0, .nils]) (by simpa using l1) f1
  simp [ca, l1, st1]
  have g1 : (h1 ++ [Obj.arr c1 .tight])[h1.length]? = some (.arr c1 .tight) := by simp
  have r1' := opC.on r1 (Keep.app NoneOf h1 [Obj.arr c1 .tight])
  generalize hH1 : h1 ++ [Obj.arr c1 .tight] = H1 at *
  refine (refParseOp_spec lp (by omega)).mono ?_
  rintro r h2 ⟨⟨c2, rfl, r2⟩, k2⟩
  rw [hq] at r2 ⊢
  have r2 : opC.rep h2 (From H1) c2 x := r2
  have l2 : c2.length = 5 := opC.len r2
  have f2 := opC.flat r2
  have st2 := store_new (h := h2) (row := c2) (z := [.int .i64 0, .int .i64 0, .int .i64 0, .int .i64 0, .nils]) (by simpa using l2) f2
  have g2 : (h2 ++ [Obj.arr c2 .tight])[h2.length]? = some (.arr c2 .tight) := by simp
  have kap := Keep.app NoneOf h2 [Obj.arr c2 .tight]
  have g12 := kap.at (k2.at g1 id) id
  have r1'' := opC.on (opC.on r1' k2) kap
  have r2' := opC.on r2 kap
  simp [ca, l2, st2]
  generalize hH2 : h2 ++ [Obj.arr c2 .tight] = H2 at *
  have w1 := ldw g12 l1
  have w2 := ldw g2 l2
  simp [w1, w2]
  refine WO_re (by simp) ?_
  simp
  refine (opOf_spec (K := 32) (by rw [lp.pg]; exact S.pg32) (lp.no ⟨rfl, rfl⟩) r1'' hbig).mono ?_
  rintro r h3 ⟨k3, d, rfl, rd⟩
  have g13 := k3.at g12 id
  have w13 := ldw g13 l1
  have w23 := ldw (k3.at g2 id) l2
  refine ⟨fun c => by simp [recheckB, wanted, Env.get, cls, evOp, Opd.ev, withH, CV.eqb, w23, CV.eqb_refl, CV.eqbL_refl], ?_⟩
  refine (refSameOp_spec lp.pg (lp.no ⟨rfl, rfl⟩) rd (opC.on r2' k3) hbig).mono ?_
  rintro r h4 ⟨rfl, k4⟩
  have w14 := ldw (k4.at g13 id) l1
  have r14 := opC.on (opC.on r1'' k3) k4
  by_cases he : e = 0
  · subst he
    obtain ⟨t1, t2⟩ := hT x hq
    simp [w14]
    refine (opText_spec lp r14 hIx).mono ?_
    rintro r h5 ⟨rfl, k5⟩
    have w15 := ldw (k5.at (k4.at g13 id) id) l1
    rw [t1]
    simp [w15]
    refine (opCheck_spec lp (opC.on r14 k5)).mono ?_
    rintro r h6 ⟨rfl, k6⟩
    simp [t2]
  · simp [he]

theorem okOp.In {x : OpV} (h : okOp x) (hl : x.cases.length ≤ 20) : x.In := ⟨h.2.1, h.2.2.1, h.2.2.2.1, h.2.2.2.2, by omega⟩
theorem okOp.fine {x : OpV} (h : okOp x) : x.fine := ⟨h.2.2.1, fun c hc => (h.2.2.2.2 c hc).2⟩

theorem opText_le {x : OpV} (hl : x.cases.length ≤ 20) : (opText x).length ≤ 2000 := by
  unfold opText
  split
  · simp
  · have := opWords_join (x := x)
    have h2 : (4 + 3 * x.cases.length) * 22 ≤ 64 * 22 := Nat.mul_le_mul_right _ (by omega)
    omega

/-! ### OpAny -/

theorem opAny_law (lp : LP p) (hp : p.pr = addKnown [218] lib) {x y : OpV} {c d : List CV} {h : Heap} {P Q : Nat → Prop} (rx : opC.rep h P c x) (ry : opC.rep h Q d y) (hx : okOp x) (hy : okOp y) : WF p 239 [.agg c, .agg d] h fun r _ => r = .bool true := by
  refine WF_of (by rw [lp.pg]; exact S.pg239) (lp.no' hp ⟨rfl, rfl⟩) ?_
  show W p S.b239 _ _ (retQ [.t 4] _)
  unfold S.b239
  have ca : ∀ l, (CV.agg l).cells = l := fun _ => rfl
  simp [ca]
  refine WF_yes hp rfl ?_
  have gx : (h ++ [Obj.arr c .tight, .arr d .tight])[h.length]? = some (.arr c .tight) := by simp
  have gy : (h ++ [Obj.arr c .tight, .arr d .tight])[h.length + 1]? = some (.arr d .tight) := by simp
  have rx := opC.on rx (Keep.app NoneOf h [Obj.arr c .tight, .arr d .tight])
  have ry := opC.on ry (Keep.app NoneOf h [Obj.arr c .tight, .arr d .tight])
  have lx : c.length = 5 := opC.len rx
  have ly : d.length = 5 := opC.len ry
  generalize h ++ [Obj.arr c .tight, .arr d .tight] = H0 at *
  have w := ldw gx lx
  simp [w]
  refine (opFew_spec lp.pg (lp.no ⟨rfl, rfl⟩) rx).mono ?_
  rintro r H1 ⟨rfl, k1⟩
  have gx := k1.at gx id
  have gy := k1.at gy id
  have rx := opC.on rx k1
  have ry := opC.on ry k1
  by_cases fx : x.cases.length ≤ 20
  case neg => simp [fx]
  have w := ldw gy ly
  simp [fx, w]
  refine (opFew_spec lp.pg (lp.no ⟨rfl, rfl⟩) ry).mono ?_
  rintro r H2 ⟨rfl, k2⟩
  have gx := k2.at gx id
  have gy := k2.at gy id
  have rx := opC.on rx k2
  have ry := opC.on ry k2
  by_cases fy : y.cases.length ≤ 20
  case neg => simp [fy]
  have inx := hx.In fx
  have iny := hy.In fy
  have bx : x.cases.length ≤ big := by simp [big]; omega
  have bby : y.cases.length ≤ big := by simp [big]; omega
  have w := ldw gx lx
  simp [fy, w]
  refine (opOf_spec (K := 68) (by rw [lp.pg]; exact S.pg68) (lp.no ⟨rfl, rfl⟩) rx bx).mono ?_
  rintro r H3 ⟨k3, a, rfl, ra⟩
  have gx := k3.at gx id
  have gy := k3.at gy id
  have rx := opC.on rx k3
  have ry := opC.on ry k3
  have la : a.length = 5 := opC.len ra
  have fa := opC.flat ra
  have st := store_new (h := H3) (row := a) (z := [.int .i64 0, .int .i64 0, .int .i64 0, .int .i64 0, .nils]) (by simpa using la) fa
  have kap := Keep.app NoneOf H3 [Obj.arr a .tight]
  have ga : (H3 ++ [Obj.arr a .tight])[H3.length]? = some (.arr a .tight) := by simp
  have gx := kap.at gx id
  have gy := kap.at gy id
  have ra := opC.on ra kap
  have rx := opC.on rx kap
  have ry := opC.on ry kap
  simp [ca, la, st]
  generalize hb : H3.length = b at *
  generalize H3 ++ [Obj.arr a .tight] = H4 at *
  have wa := ldw ga la
  have wx := ldw gx lx
  simp [wa, wx]
  refine WO_re_n ?_
  simp
  refine (opCheck_spec lp ra).mono ?_
  rintro r H5 ⟨rfl, k5⟩
  have ga := k5.at ga id
  have gx := k5.at gx id
  have gy := k5.at gy id
  have ra := opC.on ra k5
  have rx := opC.on rx k5
  have ry := opC.on ry k5
  have wa := ldw ga la
  have wx := ldw gx lx
  have wy := ldw gy ly
  refine ⟨fun c => by simp [recheckB, wanted, Env.get, cls, evOp, Opd.ev, withH, CV.eqb, wa, wx, wy, CV.eqb_refl, CV.eqbL_refl], ?_⟩
  refine (refOpCheck_spec lp rx).mono ?_
  rintro r H6 ⟨rfl, k6⟩
  have ga := k6.at ga id
  have gx := k6.at gx id
  have gy := k6.at gy id
  have ra := opC.on ra k6
  have rx := opC.on rx k6
  have ry := opC.on ry k6
  have wa := ldw ga la
  have wx := ldw gx lx
  have wy := ldw gy ly
  simp [wa, wx, wy]
  refine WO_re (by simp) ?_
  simp
  refine (opOf_spec (K := 68) (by rw [lp.pg]; exact S.pg68) (lp.no ⟨rfl, rfl⟩) ry bby).mono ?_
  rintro r H7 ⟨k7, e, rfl, re⟩
  have ga := k7.at ga id
  have gx := k7.at gx id
  have gy := k7.at gy id
  have ra := opC.on ra k7
  have rx := opC.on rx k7
  have ry := opC.on ry k7
  have wa := ldw ga la
  have wx := ldw gx lx
  have wy := ldw gy ly
  refine ⟨fun c => by simp [recheckB, wanted, Env.get, cls, evOp, Opd.ev, withH, CV.eqb, wa, wx, wy, CV.eqb_refl, CV.eqbL_refl], ?_⟩
  refine WO_re (by simp) ?_
  simp
  refine (opSame_spec lp.pg (lp.no ⟨rfl, rfl⟩) (lp.no ⟨rfl, rfl⟩) ra re bx).mono ?_
  rintro r H8 ⟨rfl, k8⟩
  have ga := k8.at ga id
  have gx := k8.at gx id
  have gy := k8.at gy id
  have ra := opC.on ra k8
  have rx := opC.on rx k8
  have ry := opC.on ry k8
  have wa := ldw ga la
  have wx := ldw gx lx
  have wy := ldw gy ly
  refine ⟨fun c => by simp [recheckB, wanted, Env.get, cls, evOp, Opd.ev, withH, CV.eqb, wa, wx, wy, CV.eqb_refl, CV.eqbL_refl], ?_⟩
  try simp
  refine (refSameOp_spec lp.pg (lp.no ⟨rfl, rfl⟩) rx ry bx).mono ?_
  rintro r H9 ⟨rfl, k9⟩
  have ga := k9.at ga id
  have gx := k9.at gx id
  have ra := opC.on ra k9
  have rx := opC.on rx k9
  have wa := ldw ga la
  have wx := ldw gx lx
  simp [wa, wx]
  refine WO_re (by simp) ?_
  simp
  refine (opWaits_spec lp ra).mono ?_
  rintro r H10 ⟨rfl, k10⟩
  have ga := k10.at ga id
  have gx := k10.at gx id
  have ra := opC.on ra k10
  have rx := opC.on rx k10
  have wa := ldw ga la
  have wx := ldw gx lx
  refine ⟨fun c => by simp [recheckB, wanted, Env.get, cls, evOp, Opd.ev, withH, CV.eqb, wa, wx, CV.eqb_refl, CV.eqbL_refl], ?_⟩
  try simp
  refine (refOpWaits_spec lp rx).mono ?_
  rintro r H11 ⟨rfl, k11⟩
  have ga := k11.at ga id
  have gx := k11.at gx id
  have ra := opC.on ra k11
  have rx := opC.on rx k11
  have wa := ldw ga la
  have wx := ldw gx lx
  simp [wx]
  refine (refOpCheck_spec lp rx).mono ?_
  rintro r H12 ⟨rfl, k12⟩
  have ga := k12.at ga id
  have gx := k12.at gx id
  have ra := opC.on ra k12
  have rx := opC.on rx k12
  have wa := ldw ga la
  have wx := ldw gx lx
  by_cases hc : opCheckP x = 0
  case neg => simp [hc]
  simp [hc, wa]
  refine (opText_spec lp ra inx).mono ?_
  rintro r H13 ⟨rfl, k13⟩
  have gx := k13.at gx id
  have rx := opC.on rx k13
  have tl := opText_le fx
  have hpt := parse_text hc hx.fine
  try simp
  refine (opParse_spec lp (by omega)).mono ?_
  rintro r H14 ⟨⟨q, rfl, rq⟩, k14⟩
  rw [hpt] at rq ⊢
  have rq : opC.rep H14 (From H13) q x := rq
  have gx := k14.at gx id
  have rx := opC.on rx k14
  have lq : q.length = 5 := opC.len rq
  have fq := opC.flat rq
  have st := store_new (h := H14) (row := q) (z := [.int .i64 0, .int .i64 0, .int .i64 0, .int .i64 0, .nils]) (by simpa using lq) fq
  have kap := Keep.app NoneOf H14 [Obj.arr q .tight]
  have gq : (H14 ++ [Obj.arr q .tight])[H14.length]? = some (.arr q .tight) := by simp
  have gx := kap.at gx id
  have rq := opC.on rq kap
  have rx := opC.on rx kap
  have wx := ldw gx lx
  simp [ca, lq, st]
  generalize hb2 : H14.length = b2 at *
  generalize H14 ++ [Obj.arr q .tight] = H15 at *
  simp [wx]
  refine (refOpText_spec lp rx hc inx).mono ?_
  rintro r H16 ⟨rfl, k16⟩
  have gx := k16.at gx id
  have gq := k16.at gq id
  have rq := opC.on rq k16
  have rx := opC.on rx k16
  have wx := ldw gx lx
  have wq := ldw gq lq
  simp [wx, wq]
  refine WO_re (by simp) ?_
  simp
  refine (opOf_spec (K := 32) (by rw [lp.pg]; exact S.pg32) (lp.no ⟨rfl, rfl⟩) rq bx).mono ?_
  rintro r H17 ⟨k17, f, rfl, rf⟩
  have gx := k17.at gx id
  have rx := opC.on rx k17
  have wx := ldw gx lx
  refine ⟨fun c => by simp [recheckB, wanted, Env.get, cls, evOp, Opd.ev, withH, CV.eqb, wx, CV.eqb_refl, CV.eqbL_refl], ?_⟩
  try simp
  refine (refSameOp_spec lp.pg (lp.no ⟨rfl, rfl⟩) rf rx bx).mono ?_
  rintro r H18 ⟨rfl, k18⟩
  simp

/-! ### OpApart -/

theorem opApart_law (lp : LP p) (hp : p.pr = addKnown [218] lib) {x y : OpV} {c d : List CV} {h : Heap} {P Q : Nat → Prop} (rx : opC.rep h P c x) (ry : opC.rep h Q d y) (hx : okOp x) (hy : okOp y) : WF p 245 [.agg c, .agg d] h fun r _ => r = .bool true := by
  refine WF_of (by rw [lp.pg]; exact S.pg245) (lp.no' hp ⟨rfl, rfl⟩) ?_
  show W p S.b245 _ _ (retQ [.t 4] _)
  unfold S.b245
  have ca : ∀ l, (CV.agg l).cells = l := fun _ => rfl
  simp [ca]
  refine WF_yes hp rfl ?_
  have gx : (h ++ [Obj.arr c .tight, .arr d .tight])[h.length]? = some (.arr c .tight) := by simp
  have gy : (h ++ [Obj.arr c .tight, .arr d .tight])[h.length + 1]? = some (.arr d .tight) := by simp
  have rx := opC.on rx (Keep.app NoneOf h [Obj.arr c .tight, .arr d .tight])
  have ry := opC.on ry (Keep.app NoneOf h [Obj.arr c .tight, .arr d .tight])
  have lx : c.length = 5 := opC.len rx
  have ly : d.length = 5 := opC.len ry
  generalize h ++ [Obj.arr c .tight, .arr d .tight] = H0 at *
  have w := ldw gx lx
  simp [w]
  refine (opFew_spec lp.pg (lp.no ⟨rfl, rfl⟩) rx).mono ?_
  rintro r H1 ⟨rfl, k1⟩
  have gx := k1.at gx id
  have gy := k1.at gy id
  have rx := opC.on rx k1
  have ry := opC.on ry k1
  by_cases fx : x.cases.length ≤ 20
  case neg => simp [fx]
  have w := ldw gy ly
  simp [fx, w]
  refine (opFew_spec lp.pg (lp.no ⟨rfl, rfl⟩) ry).mono ?_
  rintro r H2 ⟨rfl, k2⟩
  have gx := k2.at gx id
  have gy := k2.at gy id
  have rx := opC.on rx k2
  have ry := opC.on ry k2
  by_cases fy : y.cases.length ≤ 20
  case neg => simp [fy]
  have inx := hx.In fx
  have iny := hy.In fy
  have bx : x.cases.length ≤ big := by simp [big]; omega
  have bby : y.cases.length ≤ big := by simp [big]; omega
  have w := ldw gx lx
  simp [fy, w]
  refine (refOpCheck_spec lp rx).mono ?_
  rintro r H3 ⟨rfl, k3⟩
  have gx := k3.at gx id
  have gy := k3.at gy id
  have rx := opC.on rx k3
  have ry := opC.on ry k3
  by_cases cx : opCheckP x = 0
  case neg => simp [cx]
  have w := ldw gy ly
  simp [cx, w]
  refine (refOpCheck_spec lp ry).mono ?_
  rintro r H4 ⟨rfl, k4⟩
  have gx := k4.at gx id
  have gy := k4.at gy id
  have rx := opC.on rx k4
  have ry := opC.on ry k4
  by_cases cy : opCheckP y = 0
  case neg => simp [cy]
  have inj := text_inj cx cy hx.fine hy.fine
  have wx := ldw gx lx
  have wy := ldw gy ly
  simp [cy, wx, wy, ca]
  refine WO_re_n ?_
  have kap := Keep.app NoneOf H4 [Obj.arr [.int .i64 0, .int .i64 0, .int .i64 0, .int .i64 0, .nils] .tight, .arr [.int .i64 0, .int .i64 0, .int .i64 0, .int .i64 0, .nils] .tight]
  have gA : (H4 ++ [Obj.arr [.int .i64 0, .int .i64 0, .int .i64 0, .int .i64 0, .nils] .tight, .arr [.int .i64 0, .int .i64 0, .int .i64 0, .int .i64 0, .nils] .tight])[H4.length]? = some (.arr [.int .i64 0, .int .i64 0, .int .i64 0, .int .i64 0, .nils] .tight) := by simp
  have gB : (H4 ++ [Obj.arr [.int .i64 0, .int .i64 0, .int .i64 0, .int .i64 0, .nils] .tight, .arr [.int .i64 0, .int .i64 0, .int .i64 0, .int .i64 0, .nils] .tight])[H4.length + 1]? = some (.arr [.int .i64 0, .int .i64 0, .int .i64 0, .int .i64 0, .nils] .tight) := by simp
  have gy := kap.at gy id
  have rx := opC.on rx kap
  have ry := opC.on ry kap
  generalize hb : H4.length = b at *
  generalize H4 ++ [Obj.arr [.int .i64 0, .int .i64 0, .int .i64 0, .int .i64 0, .nils] .tight, .arr [.int .i64 0, .int .i64 0, .int .i64 0, .int .i64 0, .nils] .tight] = H5 at *
  simp
  refine (opOf_spec (K := 68) (by rw [lp.pg]; exact S.pg68) (lp.no ⟨rfl, rfl⟩) rx bx).mono ?_
  rintro r H6 ⟨k6, a, rfl, ra⟩
  have wy := ldw (k6.at gy id) ly
  refine ⟨fun c => by simp [recheckB, wanted, Env.get, cls, evOp, Opd.ev, withH, CV.eqb, wy, CV.eqb_refl, CV.eqbL_refl], ?_⟩
  refine (opOf_spec (K := 68) (by rw [lp.pg]; exact S.pg68) (lp.no ⟨rfl, rfl⟩) (opC.on ry k6) bby).mono ?_
  rintro r H7 ⟨k7, e, rfl, re⟩
  have gA7 := k7.at (k6.at gA id) id
  have gB7 := k7.at (k6.at gB id) id
  have ra7 := opC.on ra k7
  have la : a.length = 5 := opC.len ra
  have le : e.length = 5 := opC.len re
  have stA := sto gA7 (vs := a) (by simpa using la) (opC.flat ra)
  have hlA := lt_of_get gA
  have hlB := lt_of_get gB
  have kA : Keep (fun i => i = b) H7 (H7.set b (.arr a .tight)) := Keep.set _ _ rfl
  have gB8 := kA.at gB7 (by omega)
  have stB := sto gB8 (vs := e) (by simpa using le) (opC.flat re)
  have kB : Keep (fun i => i = b + 1) (H7.set b (.arr a .tight)) ((H7.set b (.arr a .tight)).set (b + 1) (.arr e .tight)) := Keep.set _ _ rfl
  have gA9 := kB.at (get_set_self (o := .arr a .tight) (lt_of_get gA7)) (by omega)
  have gB9 := get_set_self (o := .arr e .tight) (lt_of_get gB8)
  have hl6 := k6.len
  have ra9 := opC.keep (opC.keep ra7 kA (fun i hi hn => by simp only [From] at hi; omega)) kB (fun i hi hn => by simp only [From] at hi; omega)
  have re9 := opC.keep (opC.keep re kA (fun i hi hn => by simp only [From] at hi; omega)) kB (fun i hi hn => by simp only [From] at hi; omega)
  simp [la, le, ca, stA, stB]
  generalize (H7.set b (.arr a .tight)).set (b + 1) (.arr e .tight) = H9 at *
  have wa := ldw gA9 la
  have we := ldw gB9 le
  simp [wa, we]
  refine WO_re_n ?_
  simp
  refine (opText_spec lp ra9 inx).mono ?_
  rintro r H10 ⟨rfl, k10⟩
  have ga := k10.at gA9 id
  have ge := k10.at gB9 id
  have ra := opC.on ra9 k10
  have re := opC.on re9 k10
  have wa := ldw ga la
  have we := ldw ge le
  refine ⟨fun c => by simp [recheckB, wanted, Env.get, cls, evOp, Opd.ev, withH, CV.eqb, wa, we, CV.eqb_refl, CV.eqbL_refl], ?_⟩
  refine WO_re_n ?_
  simp
  refine (opText_spec lp re iny).mono ?_
  rintro r H11 ⟨rfl, k11⟩
  have ga := k11.at ga id
  have ge := k11.at ge id
  have ra := opC.on ra k11
  have re := opC.on re k11
  have wa := ldw ga la
  have we := ldw ge le
  refine ⟨fun c => by simp [recheckB, wanted, Env.get, cls, evOp, Opd.ev, withH, CV.eqb, wa, we, CV.eqb_refl, CV.eqbL_refl], ?_⟩
  simp
  refine (opSame_spec lp.pg (lp.no ⟨rfl, rfl⟩) (lp.no ⟨rfl, rfl⟩) ra re bx).mono ?_
  rintro r H12 ⟨rfl, k12⟩
  have ga := k12.at ga id
  have ge := k12.at ge id
  have ra := opC.on ra k12
  have re := opC.on re k12
  have wa := ldw ga la
  have we := ldw ge le
  have heq : (opText x == opText y) = decide (x = y) := by
    by_cases h : x = y
    · simp [h]
    · rw [decide_eq_false h]
      have : ¬ opText x = opText y := fun hh => h (inj.1 hh)
      simpa using this
  simp [heq, wa, we]
  refine WO_re (by simp) ?_
  simp
  refine (opSame_spec lp.pg (lp.no ⟨rfl, rfl⟩) (lp.no ⟨rfl, rfl⟩) ra re bx).mono ?_
  rintro r H13 ⟨rfl, k13⟩
  have ga := k13.at ga id
  have ge := k13.at ge id
  have ra := opC.on ra k13
  have re := opC.on re k13
  have wa := ldw ga la
  have we := ldw ge le
  refine ⟨fun c => by simp [recheckB, wanted, Env.get, cls, evOp, Opd.ev, withH, CV.eqb, wa, we, CV.eqb_refl, CV.eqbL_refl], ?_⟩
  try simp
  refine (opSame_spec lp.pg (lp.no ⟨rfl, rfl⟩) (lp.no ⟨rfl, rfl⟩) re ra bby).mono ?_
  rintro r H14 ⟨rfl, k14⟩
  have : decide (x = y) = decide (y = x) := by
    by_cases h : x = y
    · simp [h]
    · have h2 : ¬ y = x := fun hh => h hh.symm
      simp [h, h2]
  simp [this]

end Go.Cl
