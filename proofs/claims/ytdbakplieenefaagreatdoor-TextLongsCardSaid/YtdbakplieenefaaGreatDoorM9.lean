/-
  Texts laid together: AOpP AOpI AOpQ AOpX AOpY.
-/
import Derived.Test.YtdbakplieenefaaGreatDoorM8
import Derived.Test.YtdbakplieenefaaGreatDoorM7
namespace Go.Cl
open Go
set_option linter.unusedSimpArgs false
set_option linter.unusedVariables false
set_option maxHeartbeats 4000000
variable {p : PP}
theorem RdI.before {P : Nat → Prop} {h : Heap} {b : Nat} {l : List Wd} {e : Int} (r : RdI P h b l e) : RdI (fun k => P k ∧ k < h.length) h b l e := let ⟨v, a, s⟩ := r; ⟨v, a, s.lt⟩
theorem RdI.mono {P Q : Nat → Prop} {h : Heap} {b : Nat} {l : List Wd} {e : Int} (r : RdI P h b l e) (k : ∀ i, P i → Q i) : RdI Q h b l e := let ⟨v, a, s⟩ := r; ⟨v, a, s.mono k⟩
theorem RdI.skip {P : Nat → Prop} {h : Heap} {o : Obj} {b : Nat} {l : List Wd} {e : Int} (r : RdI P h b l e) : RdI (fun k => P k ∧ k ≠ h.length) (h ++ [o]) b l e :=
 (r.before.mono fun i hi => ⟨hi.1, by omega⟩).on (Keep.app _ _ _)
theorem RdP.skip {P : Nat → Prop} {b n : Nat} (r : RdP P b n) : RdP (fun k => P k ∧ k ≠ n) b (n + 1) := ⟨fun k hk => r.1 k hk.1, fun k hk => ⟨r.2 k (by omega), by omega⟩⟩
theorem opNext_spec (lp : LP p) {Q : Nat → Prop} {h : Heap} {b : Nat} {l : List Wd} {e : Int} (hQ : RdP Q b h.length) (r : RdI Q h b l e) (hl : l ≠ []) :
  WF p 237 [.ptr b 0] h fun q h' => q = .str (at_ l 0) ∧ RdI Q h' b l.tail e ∧ Keep (fun k => k = b) h h' := by
 refine WF_of (by rw [lp.pg]; exact S.pg237) (lp.no ⟨rfl, rfl⟩) ?_
 show W p S.b237 _ _ (retQ [.t 2] _)
 unfold S.b237
 obtain ⟨v, g0, s⟩ := r
 have l0 := ld g0
 have hlen : 0 < l.length := by cases l <;> simp at hl ⊢
 obtain ⟨b1, o1, row, x1, x2, x3, x4⟩ := s.row (k := .i64) (by decide) hlen
 have x4 : row = [.str l[0]] := x4
 have x1 : idxAddrV 1 v (.int .i64 0) = some (.ptr b1 o1) := x1
 simp only [Cod.str] at x2 x3
 have x5 := x3 0 (by decide)
 rw [x4] at x5
 simp at x5
 obtain ⟨v', h1, y1, y2, y3⟩ := s.tail (k := .i64) (m := 1) (by decide) (by omega)
 have y1 : slSl h 1 v (some (.int .i64 1)) none = some (v', h1) := y1
 have g1 := y3.at g0 id
 have l1 := ld g1
 have hat : at_ l 0 = l[0] := by simp [at_, List.getElem?_eq_getElem hlen]
 have hsc := y2.scalar
 have hb1 : b < h1.length := lt_of_get g1
 have s1 := sto1 g1 (o := 0) (v := v') (by simp) hsc
 have gA : (h1.set b (.arr [v', .int .i64 e] .tight))[b]? = some (.arr [v', .int .i64 e] .tight) := get_set_self hb1
 have kA : Keep (fun k => k = b) h1 (h1.set b (.arr [v', .int .i64 e] .tight)) := Keep.set _ _ rfl
 have kh : Keep (fun k => k = b) h h1 := y3.mono fun _ _ hn => hn.elim
 have yA : Sl .str (h1.set b (.arr [v', .int .i64 e] .tight)) Q v' l.tail := by
  have := (y2.mono (Q := Q) fun k hk => by
   rcases hk with hk | hk
   ·exact hk
   ·exact hQ.2 k hk).keep kA fun k hk => hQ.1 k hk
  simpa using this
 have fs := fits_scalar hsc
 have cs := CV.cells_scalar hsc
 have hset : ([v, .int .i64 e] : List CV).set 0 v' = [v', .int .i64 e] := rfl
 rw [hset] at s1
 rw [hat]
 simp [l0, x1, x5, y1, l1, fs, cs, s1]
 exact ⟨⟨v', gA, yA⟩, kh.trans kA⟩
theorem opNumber_spec (lp : LP p) {Q : Nat → Prop} {h : Heap} {b : Nat} {l : List Wd} {e : Int} (hQ : RdP Q b h.length) (r : RdI Q h b l e) (hl : l ≠ []) (hw : ∀ w ∈ l, w.length < 4294967281) :
  WF p 231 [.ptr b 0] h fun q h' => q = .int .i64 (numR e (at_ l 0)).1 ∧ RdI Q h' b l.tail (numR e (at_ l 0)).2 ∧ Keep (fun k => k = b) h h' := by
 refine WF_of (by rw [lp.pg]; exact S.pg231) (lp.no ⟨rfl, rfl⟩) ?_
 show W p S.b231 _ _ (retQ [.t 2] _)
 unfold S.b231
 simp
 refine (opNext_spec lp hQ r hl).mono ?_
 rintro q h1 ⟨rfl, ⟨v, g0, s⟩, k1⟩
 have l0 := ld g0
 by_cases he : e = 0
 ·subst he
  simp [l0]
  have hlen : 0 < l.length := by cases l <;> simp at hl ⊢
  have hat : at_ l 0 = l[0] := by simp [at_, List.getElem?_eq_getElem hlen]
  refine (wordNumber_spec lp (by rw [hat]; exact hw _ (List.getElem_mem hlen))).mono ?_
  rintro r h2 ⟨rfl, k2⟩
  have gB := k2.at g0 id
  have sB := sto1 gB (o := 1) (v := .int .i64 (numP (at_ l 0)).2) (by simp) rfl
  have hset2 : ([v, .int .i64 0] : List CV).set 1 (.int .i64 (numP (at_ l 0)).2) = [v, .int .i64 (numP (at_ l 0)).2] := rfl
  rw [hset2] at sB
  have kB : Keep (fun k => k = b) h2 (h2.set b (.arr [v, .int .i64 (numP (at_ l 0)).2] .tight)) := Keep.set _ _ rfl
  simp [CV.cells, fits, sB, numR]
  exact ⟨⟨v, get_set_self (lt_of_get gB), (s.on k2).keep kB fun k hk => hQ.1 k hk⟩, (k1.trans (k2.mono fun _ _ hn => hn.elim)).trans kB⟩
 ·simp [l0, he, numR_err he]
  exact ⟨⟨v, g0, s⟩, k1⟩
theorem opWaitR_spec (lp : LP p) {Q : Nat → Prop} {h : Heap} {b : Nat} {l : List Wd} {e : Int} (hQ : RdP Q b h.length) (r : RdI Q h b l e) (hl : l ≠ []) (hw : ∀ w ∈ l, w.length < 4294967281) :
  WF p 232 [.ptr b 0] h fun q h' => q = .int .i64 (waitR e (at_ l 0)).1 ∧ RdI Q h' b l.tail (waitR e (at_ l 0)).2 ∧ Keep (fun k => k = b) h h' := by
 refine WF_of (by rw [lp.pg]; exact S.pg232) (lp.no ⟨rfl, rfl⟩) ?_
 show W p S.b232 _ _ (retQ [.t 2] _)
 unfold S.b232
 have r0 := r
 obtain ⟨v, g0, s⟩ := r
 have l0 := ld g0
 by_cases he : e = 0
 ·subst he
  have hlen : 0 < l.length := by cases l <;> simp at hl ⊢
  obtain ⟨b1, o1, row, x1, x2, x3, x4⟩ := s.row (k := .i64) (by decide) hlen
  have x4 : row = [.str l[0]] := x4
  have x1 : idxAddrV 1 v (.int .i64 0) = some (.ptr b1 o1) := x1
  simp only [Cod.str] at x2 x3
  have x5 := x3 0 (by decide)
  rw [x4] at x5
  have hat : at_ l 0 = l[0] := by simp [at_, List.getElem?_eq_getElem hlen]
  rw [← hat] at x5
  simp at x5
  by_cases hd : at_ l 0 = [45]
  ·have hR : waitR 0 (at_ l 0) = (-1, 0) := by unfold waitR; rw [if_pos rfl, if_pos hd]
   rw [hR]
   simp [l0, x1, x5, hd]
   refine (opNext_spec lp hQ r0 hl).mono ?_
   rintro q h1 ⟨rfl, rd, k1⟩
   exact ⟨rd, k1⟩
  ·simp [l0, x1, x5, hd]
   refine (opNumber_spec lp hQ r0 hl hw).mono ?_
   rintro q h1 ⟨rfl, ⟨v1, g1, s1⟩, k1⟩
   have l1 := ld g1
   have hN : numR 0 (at_ l 0) = numP (at_ l 0) := by unfold numR; rw [if_pos rfl]
   have hR : waitR 0 (at_ l 0) = if (numP (at_ l 0)).2 = 0 ∧ (numP (at_ l 0)).1 < 0 then ((numP (at_ l 0)).1, 2) else numP (at_ l 0) := by
    unfold waitR; rw [if_pos rfl, if_neg hd]
   rw [hN] at g1 l1
   rw [hN, hR]
   generalize numP (at_ l 0) = N at *
   obtain ⟨n, f⟩ := N
   try simp only at g1 l1
   by_cases hf : f = 0
   ·subst hf
    by_cases hn : n < 0
    ·have sB := sto1 g1 (o := 1) (v := .int .i64 2) (by simp) rfl
     have hset2 : ([v1, .int .i64 0] : List CV).set 1 (.int .i64 2) = [v1, .int .i64 2] := rfl
     rw [hset2] at sB
     have kB : Keep (fun k => k = b) h1 (h1.set b (.arr [v1, .int .i64 2] .tight)) := Keep.set _ _ rfl
     simp [l1, hn, fits, CV.cells, sB]
     exact ⟨⟨v1, get_set_self (lt_of_get g1), s1.keep kB fun k hk => hQ.1 k hk⟩, k1.trans kB⟩
    ·simp [l1, hn]
     exact ⟨⟨v1, g1, s1⟩, k1⟩
   ·simp [l1, hf]
    exact ⟨⟨v1, g1, s1⟩, k1⟩
 ·rw [waitR_err he]
  simp [l0, he]
  refine (opNext_spec lp hQ r0 hl).mono ?_
  rintro q h1 ⟨rfl, rd, k1⟩
  exact ⟨rd, k1⟩
def oneC (l : List Wd) (e : Int) : Case := if at_ l 0 = wSend then ⟨true, clamp (numR e (at_ l 1)).1, (numR (numR e (at_ l 1)).2 (at_ l 2)).1⟩ else ⟨false, clamp (numR e (at_ l 1)).1, 0⟩
def oneL (l : List Wd) : List Wd := if at_ l 0 = wSend then l.drop 3 else l.drop 2
def oneE (l : List Wd) (e : Int) : Int := if at_ l 0 = wSend then (numR (numR e (at_ l 1)).2 (at_ l 2)).2 else (numR e (at_ l 1)).2
theorem one_run {l : List Wd} {acc : List Case} {e : Int} (h : shapedP l = true) (hl : l ≠ []) : runP l acc e = runP (oneL l) (acc ++ [oneC l e]) (oneE l e) ∧ shapedP (oneL l) = true ∧ 2 ≤ l.length ∧ (at_ l 0 = wSend → 3 ≤ l.length) := by
 rcases shaped_cases h with rfl | ⟨a, b, r, rfl, hr⟩ | ⟨a, r, rfl, hr⟩
 ·exact absurd rfl hl
 ·refine ⟨?_, ?_, by simp, fun _ => by simp⟩
  ·rw [runP_send]
   simp [oneL, oneC, oneE, at_]
  ·simpa [oneL, at_] using hr
 ·refine ⟨?_, ?_, by simp, fun h => absurd h recv_send⟩
  ·rw [runP_other recv_send]
   simp [oneL, oneC, oneE, at_]
  ·simpa [oneL, at_] using hr
theorem tail_at {l : List Wd} {i : Nat} : at_ l.tail i = at_ l (i + 1) := by cases l <;> simp [at_]
theorem opOne_spec (lp : LP p) {Q : Nat → Prop} {h : Heap} {b : Nat} {l : List Wd} {e : Int} (hQ : RdP Q b h.length) (r : RdI Q h b l e) (hl : 2 ≤ l.length) (h3 : at_ l 0 = wSend → 3 ≤ l.length) (hw : ∀ w ∈ l, w.length < 4294967281) :
  WF p 233 [.ptr b 0] h fun q h' => q = .agg (caL (oneC l e)) ∧ RdI Q h' b (oneL l) (oneE l e) ∧ Keep (fun k => k = b) h h' := by
 refine WF_of (by rw [lp.pg]; exact S.pg233) (lp.no ⟨rfl, rfl⟩) ?_
 show W p S.b233 _ _ (retQ [.cell (some 3) 2] _)
 unfold S.b233
 have hne : l ≠ [] := by rintro rfl; simp at hl
 have hbl := r.lt
 simp [CV.cells]
 refine (opNext_spec lp (Q := fun k => Q k ∧ k ≠ h.length) (by simpa using hQ.skip) r.skip hne).mono ?_
 rintro q h1 ⟨rfl, rd1, k1⟩
 have gA : h1[h.length]? = some (.arr [.bool false, .int .i64 0, .int .i64 0] .tight) := k1.at (by simp) (by omega)
 have hl1 := k1.len
 simp at hl1
 have hQ1 : RdP (fun k => Q k ∧ k ≠ h.length) b h1.length := (by simpa using hQ.skip : RdP (fun k => Q k ∧ k ≠ h.length) b (h.length + 1)).mono hl1
 have ht : l.tail ≠ [] := by
  intro e0
  have := congrArg List.length e0
  simp at this; omega
 have hwt : ∀ w ∈ l.tail, w.length < 4294967281 := fun w hw' => hw w (List.mem_of_mem_tail hw')
 have st0 := fun (c : Bool) => store_new (h := h1) (z := [.bool false, .int .i64 0, .int .i64 0]) (row := [.bool c, .int .i64 0, .int .i64 0]) rfl rfl
 simp [fillC, splice, CV.cells, st0]
 refine (opNumber_spec lp (Q := fun k => (Q k ∧ k ≠ h.length) ∧ k ≠ h1.length) (by simpa using hQ1.skip) rd1.skip ht hwt).mono ?_
 rintro q h2 ⟨rfl, rd2, k2⟩
 rw [tail_at] at rd2 ⊢
 simp only [Nat.zero_add] at rd2 ⊢
 have hb1 : b < h1.length := by omega
 have gA2 : h2[h.length]? = some (.arr [.bool false, .int .i64 0, .int .i64 0] .tight) := k2.at (get_app gA) (by omega)
 have gB2 : h2[h1.length]? = some (.arr [.bool (at_ l 0 == wSend), .int .i64 0, .int .i64 0] .tight) := k2.at (by simp) (by omega)
 have hcl : IntKind.i64.wrap 0 = 0 := rfl
 have hmn : ∀ n : Int, mnL [.int .i64 n, .int .i64 8] = some (.int .i64 (min n 8)) := fun n => by
  show some (CV.int .i64 (if (8 : Int) < n then 8 else n)) = _
  congr 2
  split <;> omega
 have hmx : ∀ n : Int, mxL [.int .i64 n, .int .i64 (-1)] = some (.int .i64 (max n (-1))) := fun n => by
  show some (CV.int .i64 (if n < -1 then -1 else n)) = _
  congr 2
  split <;> omega
 have hcl2 : max (min (numR e (at_ l 1)).1 8) (-1) = clamp (numR e (at_ l 1)).1 := rfl
 have sB := sto1 gB2 (o := 1) (v := .int .i64 (clamp (numR e (at_ l 1)).1)) (by simp) rfl
 have hset : ∀ a b : CV, ([a, b, .int .i64 0] : List CV).set 1 (.int .i64 (clamp (numR e (at_ l 1)).1)) = [a, .int .i64 (clamp (numR e (at_ l 1)).1), .int .i64 0] := fun _ _ => rfl
 rw [hset] at sB
 have kB : Keep (fun k => k = h1.length) h2 (h2.set h1.length (.arr [.bool (at_ l 0 == wSend), .int .i64 (clamp (numR e (at_ l 1)).1), .int .i64 0] .tight)) := Keep.set _ _ rfl
 have gB3 : (h2.set h1.length (.arr [.bool (at_ l 0 == wSend), .int .i64 (clamp (numR e (at_ l 1)).1), .int .i64 0] .tight))[h1.length]? = some (.arr [.bool (at_ l 0 == wSend), .int .i64 (clamp (numR e (at_ l 1)).1), .int .i64 0] .tight) := get_set_self (lt_of_get gB2)
 have gA3 := kB.at gA2 (by omega)
 have rd3 : RdI (fun k => (Q k ∧ k ≠ h.length) ∧ k ≠ h1.length) (h2.set h1.length (.arr [.bool (at_ l 0 == wSend), .int .i64 (clamp (numR e (at_ l 1)).1), .int .i64 0] .tight)) b l.tail.tail (numR e (at_ l 1)).2 := by
  obtain ⟨v, a, s⟩ := rd2
  exact ⟨v, kB.at a (by omega), s.keep kB fun k hk => hk.2⟩
 have k3 : Keep (fun k => k = b) h (h2.set h1.length (.arr [.bool (at_ l 0 == wSend), .int .i64 (clamp (numR e (at_ l 1)).1), .int .i64 0] .tight)) := by
  have q1 : Keep (fun k => k = b) h h1 := ((Keep.app NoneOf _ _).mono fun _ _ hn => hn.elim).trans k1
  have q2 : Keep (fun k => k = b) h1 h2 := ((Keep.app NoneOf _ _).mono fun _ _ hn => hn.elim).trans k2
  exact (q1.trans q2).then kB fun i hi e => by omega
 have l3 := ld gB3
 have hl3 : h2.length = (h2.set h1.length (.arr [.bool (at_ l 0 == wSend), .int .i64 (clamp (numR e (at_ l 1)).1), .int .i64 0] .tight)).length := by simp
 have hl2 : h1.length < h2.length := lt_of_get gB2
 generalize hH : h2.set h1.length (.arr [.bool (at_ l 0 == wSend), .int .i64 (clamp (numR e (at_ l 1)).1), .int .i64 0] .tight) = H3 at *
 by_cases hs : at_ l 0 = wSend
 ·have hs' : (at_ l 0 == wSend) = true := by simpa using hs
  rw [hs'] at gB3 l3 hH
  have ht2 : l.tail.tail ≠ [] := by
   intro e0
   have e1 := congrArg List.length e0
   have e2 := h3 hs
   simp at e1; omega
  have hwt2 : ∀ w ∈ l.tail.tail, w.length < 4294967281 := fun w hw' => hwt w (List.mem_of_mem_tail hw')
  simp [hs', hmn, hmx, hcl2, CV.cells, sB, hH, l3]
  refine (opNumber_spec lp ⟨fun k hk => hQ.1 k hk.1.1, fun k hk => ⟨⟨hQ.2 k (by omega), by omega⟩, by omega⟩⟩ rd3 ht2 hwt2).mono ?_
  rintro q h4 ⟨rfl, rd4, k4⟩
  rw [tail_at, tail_at] at rd4 ⊢
  simp only [Nat.zero_add, Nat.reduceAdd] at rd4 ⊢
  have gB5 := k4.at gB3 (by omega)
  have gA5 := k4.at gA3 (by omega)
  have hC : oneC l e = ⟨true, clamp (numR e (at_ l 1)).1, (numR (numR e (at_ l 1)).2 (at_ l 2)).1⟩ := by unfold oneC; rw [if_pos hs]
  have hL : oneL l = l.tail.tail.tail := by unfold oneL; rw [if_pos hs]; rcases l with _ | ⟨a, _ | ⟨b, _ | ⟨c, r⟩⟩⟩ <;> rfl
  have hE : oneE l e = (numR (numR e (at_ l 1)).2 (at_ l 2)).2 := by unfold oneE; rw [if_pos hs]
  have s5 := sto1 gB5 (o := 2) (v := .int .i64 (numR (numR e (at_ l 1)).2 (at_ l 2)).1) (by simp) rfl
  have hset5 : ∀ a b c v : CV, ([a, b, c] : List CV).set 2 v = [a, b, v] := fun _ _ _ _ => rfl
  rw [hset5] at s5
  have hca : [.bool true, .int .i64 (clamp (numR e (at_ l 1)).1), .int .i64 (numR (numR e (at_ l 1)).2 (at_ l 2)).1] = caL (oneC l e) := by rw [hC]; rfl
  rw [hca] at s5
  have kB5 : Keep (fun k => k = h1.length) h4 (h4.set h1.length (.arr (caL (oneC l e)) .tight)) := Keep.set _ _ rfl
  have l5 := ldw (get_set_self (o := .arr (caL (oneC l e)) .tight) (lt_of_get gB5)) (n := 3) rfl
  have gA6 := kB5.at gA5 (by omega)
  rw [← hL, ← hE] at rd4
  have k5 := (k3.trans k4).then kB5 fun i hi e => by omega
  have rd5 : RdI (fun k => Q k ∧ k ≠ h.length) (h4.set h1.length (.arr (caL (oneC l e)) .tight)) b (oneL l) (oneE l e) := by
   obtain ⟨v, a, s⟩ := rd4
   exact ⟨v, kB5.at a (by omega), (s.keep kB5 fun k hk => hk.2).mono fun k hk => hk.1⟩
  simp [CV.cells, s5, l5]
  generalize h4.set h1.length (.arr (caL (oneC l e)) .tight) = H6 at *
  have s7 := sto gA6 (vs := caL (oneC l e)) rfl rfl
  have l7 := ldw (get_set_self (o := .arr (caL (oneC l e)) .tight) (lt_of_get gA6)) (n := 3) rfl
  have k7 : Keep (fun k => k = h.length) H6 (H6.set h.length (.arr (caL (oneC l e)) .tight)) := Keep.set _ _ rfl
  have hf : (caL (oneC l e)).length = 3 := rfl
  simp [hf, s7, l7]
  refine ⟨?_, k5.then k7 fun i hi e => by omega⟩
  obtain ⟨v, a, s⟩ := rd5
  exact ⟨v, k7.at a (by omega), (s.keep k7 fun k hk => hk.2).mono fun k hk => hk.1⟩
 ·have hs' : (at_ l 0 == wSend) = false := by simpa using hs
  rw [hs'] at gB3 l3 hH
  have hC : oneC l e = ⟨false, clamp (numR e (at_ l 1)).1, 0⟩ := by unfold oneC; rw [if_neg hs]
  have hL : oneL l = l.tail.tail := by unfold oneL; rw [if_neg hs]; rcases l with _ | ⟨a, _ | ⟨b, r⟩⟩ <;> rfl
  have hE : oneE l e = (numR e (at_ l 1)).2 := by unfold oneE; rw [if_neg hs]
  have hca : [.bool false, .int .i64 (clamp (numR e (at_ l 1)).1), .int .i64 0] = caL (oneC l e) := by rw [hC]; rfl
  have l5 := ldw gB3 (n := 3) rfl
  rw [hca] at l5
  rw [← hL, ← hE] at rd3
  have s7 := sto gA3 (vs := caL (oneC l e)) rfl rfl
  have l7 := ldw (get_set_self (o := .arr (caL (oneC l e)) .tight) (lt_of_get gA3)) (n := 3) rfl
  have k7 : Keep (fun k => k = h.length) H3 (H3.set h.length (.arr (caL (oneC l e)) .tight)) := Keep.set _ _ rfl
  have hf : (caL (oneC l e)).length = 3 := rfl
  simp [hs', hmn, hmx, hcl2, CV.cells, sB, hH, l3, l5, hf, s7, l7]
  refine ⟨?_, k3.then k7 fun i hi e => by omega⟩
  obtain ⟨v, a, s⟩ := rd3
  exact ⟨v, k7.at a (by omega), (s.keep k7 fun k hk => hk.1.2).mono fun k hk => hk.1.1⟩
theorem opIs_spec (lp : LP p) {h : Heap} {c : Nat} {v : CV} {l : List Wd} {x : KdV} {P : Nat → Prop} (g : h[c]? = some (.arr [v] .tight)) (s : Sl .str h P v l) (hl : 0 < l.length) (hw : at_ l 0 ≠ []) :
  WF p 228 [.agg (kdL x), .ptr c 0] h fun r h' => r = .bool (decide (x.word = at_ l 0)) ∧ Keep NoneOf h h' := by
 refine WF_of (by rw [lp.pg]; exact S.pg228) (lp.no ⟨rfl, rfl⟩) ?_
 show W p S.b228 _ _ (retQ [.t 3] _)
 unfold S.b228
 have k : Keep NoneOf h (h ++ [.arr (kdL x) .tight]) := Keep.app _ _ _
 have l0 := ld (k.at g id)
 have h0 : ∀ o, loadAt (h ++ [.arr (kdL x) .tight]) h.length o none = (kdL x)[o]? := fun o => one0 o
 have e0 : (kdL x)[0]? = some (.str x.word) := rfl
 obtain ⟨b1, o1, row, x1, x2, x3, x4⟩ := (s.on k).row (k := .i64) (by decide) hl
 have x4 : row = [.str l[0]] := x4
 have x1 : idxAddrV 1 v (.int .i64 0) = some (.ptr b1 o1) := x1
 simp only [Cod.str] at x2 x3
 have x5 := x3 0 (by decide)
 have hat : at_ l 0 = l[0] := by simp [at_, List.getElem?_eq_getElem hl]
 rw [x4, ← hat] at x5
 simp at x5
 have hne : (at_ l 0 == []) = false := by simpa using hw
 by_cases hq : x.word = at_ l 0
 ·simp [CV.cells, h0, e0, l0, x1, x5, hq, hw]
  exact k
 ·simp [CV.cells, h0, e0, l0, x1, x5, hq]
  exact k
def idxO (w : Wd) : Int := if kindOf w < 1 then -1 else kindOf w
def IoI (v : CV) (w : Wd) (f : CV) (h : Heap) (m : Nat) (e : Env) (h' : Heap) : Prop :=
 ∃ i : Nat, i ≤ 10 ∧ m = 10 - i ∧ e = [(0, v), (1, f), (7, .int .i64 10), (8, .int .i64 i)] ∧ Keep NoneOf h h' ∧ ∀ j (hj : j < kindsL.length), j < i → kindsL[j].word ≠ w
theorem kindW_none {w : Wd} (hw : w ≠ []) (h : ∀ j (hj : j < kindsL.length), kindsL[j].word ≠ w) : kindOf w < 1 := by
 by_cases h1 : kindOf w < 1
 ·exact h1
 ·exfalso
  have h1 : 1 ≤ kindOf w := by omega
  have h2 := (kind_le w).2
  obtain ⟨i, hi⟩ := Int.eq_ofNat_of_zero_le (by omega : 0 ≤ kindOf w)
  have h9 : i < kindsL.length := by show i < 10; omega
  have := h i h9
  rw [kind_at (by omega) h9] at this
  simp only at this
  rw [← hi, word_kind h1] at this
  exact this rfl
theorem kindW_hit {w : Wd} (hw : w ≠ []) {i : Nat} (hi : i < kindsL.length) (h : kindsL[i].word = w) : idxO w = i ∧ 1 ≤ i := by
 have h1 : 1 ≤ i := by
  rcases Nat.eq_zero_or_pos i with h0 | h0
  ·subst h0
   exact absurd h.symm hw
  ·exact h0
 have h9 : i < 10 := hi
 rw [kind_at h1 hi] at h
 simp only at h
 have := kind_word (k := i) (by omega) (by omega)
 rw [h] at this
 exact ⟨by unfold idxO; rw [if_neg (by omega), this], h1⟩
theorem opIndex_spec (lp : LP p) {h : Heap} {c : Nat} {v sv : CV} {l : List Wd} {P Q : Nat → Prop} (g : h[c]? = some (.arr [v] .tight)) (s : Sl .str h P v l) (hl : 0 < l.length) (hw : at_ l 0 ≠ []) (t : Sl kdC h Q sv kindsL) :
  WF p 229 [sv, .fn 228 [.ptr c 0]] h fun r h' => r = .int .i64 (idxO (at_ l 0)) ∧ Keep NoneOf h h' := by
 refine WF_of (by rw [lp.pg]; exact S.pg229) (lp.no ⟨rfl, rfl⟩) ?_
 show W p S.b229 _ _ (retQ [.t 4] _)
 unfold S.b229
 have n9 := t.len (by decide)
 have n9 : lenV h .sl sv = some (.int .i64 10) := n9
 simp [n9]
 refine W_loop (IoI sv (at_ l 0) (.fn 228 [.ptr c 0]) h) ?_ 10 ⟨0, by omega, by omega, rfl, Keep.refl _ _, fun j _ h0 => by omega⟩
 rintro m e h1 ⟨i, hi, rfl, rfl, k1, hno⟩
 by_cases hie : i = 10
 ·subst hie
  have := kindW_none hw fun j hj => hno j hj hj
  simp [idxO, this]
  exact k1
 ·have hlt : i < kindsL.length := by show i < 10; omega
  have hlt' : (i : Int) < 10 := by omega
  obtain ⟨b0, o0, row, x1, x2, x3, x4⟩ := (t.on k1).row (k := .i64) (by decide) hlt
  have x4 : row = kdL kindsL[i] := x4
  simp only [kdC] at x1 x2
  rw [x4] at x2
  have hwi : IntKind.i64.wrap ((i : Int) + 1) = ((i + 1 : Nat) : Int) := by rw [w64 (by omega) (by omega)]; omega
  simp [hlt', x1, x2]
  refine (opIs_spec lp (k1.at g id) (s.on k1) hl hw).mono ?_
  rintro r h2 ⟨rfl, k2⟩
  by_cases hq : kindsL[i].word = at_ l 0
  ·obtain ⟨q1, q2⟩ := kindW_hit hw hlt hq
   simp [hq, q1]
   exact k1.trans k2
  ·simp [hq, hwi]
   refine ⟨10 - (i + 1), by omega, i + 1, by omega, rfl, rfl, k1.trans k2, fun j hj hji => ?_⟩
   by_cases hjj : j = i
   ·subst hjj; exact hq
   ·exact hno j hj (by omega)
theorem shaped3 {l : List Wd} (hl : l ≠ []) (h : at_ l 0 = wSend) : shapedP l = if l.length < 3 then false else shapedP (l.drop 3) := by
 match l, hl, h with
 | [a], _, h => rfl
 | [a, b], _, h =>
   simp [at_] at h
   subst h
   rfl
 | a :: b :: c :: r, _, h =>
   simp [at_] at h
   subst h
   rw [if_neg (by simp), shapedP, if_pos rfl]
   rfl
theorem shaped2 {l : List Wd} (hl : l ≠ []) (h : at_ l 0 = wRecv) : shapedP l = if l.length < 2 then false else shapedP (l.drop 2) := by
 match l, hl, h with
 | [a], _, h => rfl
 | [a, b], _, h =>
   simp [at_] at h
   subst h
   rfl
 | a :: b :: c :: r, _, h =>
   simp [at_] at h
   subst h
   rw [if_neg (by simp)]
   exact shaped_recv
theorem shaped0 {l : List Wd} (hl : l ≠ []) (h : at_ l 0 ≠ wSend) (h2 : at_ l 0 ≠ wRecv) : shapedP l = false := by
 match l, hl, h, h2 with
 | [a], _, h, _ => rfl
 | [a, b], _, h, h2 =>
   simp [at_] at h2
   rw [shapedP]
   simpa using h2
 | a :: b :: c :: r, _, h, h2 =>
   simp [at_] at h h2
   rw [shapedP, if_neg h, if_neg h2]
theorem caseMap_look {h : Heap} {b : Nat} (g : h[b]? = some (.map [(.str wSend, .int .i64 3, 0), (.str wRecv, .int .i64 2, 1)] 2)) (w : Wd) :
  lookupV h false .s (.int .i64 0) (.mp b) (.str w) = some (.int .i64 (if w = wSend then 3 else if w = wRecv then 2 else 0)) := by
 have fk : findKey .s (.str w) [(.str wSend, .int .i64 3, 0), (.str wRecv, .int .i64 2, 1)] 0 = some (if w = wSend then some (0, .int .i64 3, 0) else if w = wRecv then some (1, .int .i64 2, 1) else none) := by
  by_cases a : w = wSend
  ·subst a; rfl
  ·by_cases b : w = wRecv
   ·subst b; rfl
   ·have a' : (w == wSend) = false := by simpa using a
    have b' : (w == wRecv) = false := by simpa using b
    rw [if_neg a, if_neg b]
    simp only [findKey, eqKind, a', b']
 simp only [lookupV, g, fk]
 by_cases a : w = wSend
 ·rw [if_pos a, if_pos a]; rfl
 ·by_cases b : w = wRecv
  ·rw [if_neg a, if_neg a, if_pos b, if_pos b]; rfl
  ·rw [if_neg a, if_neg a, if_neg b, if_neg b]; rfl
def SpI (l : List Wd) (h : Heap) (m : Nat) (e : Env) (h' : Heap) : Prop :=
 ∃ (v : CV) (l' : List Wd), m = l'.length ∧ e = [(0, v)] ∧ Keep NoneOf h h' ∧ Sl .str h' Any v l' ∧ shapedP l = shapedP l'
theorem opShaped_spec (lp : LP p) {h : Heap} {v : CV} {l : List Wd} {P : Nat → Prop} (s : Sl .str h P v l) (hl : l.length ≤ big) :
  WF p 236 [v] h fun r h' => r = .bool (shapedP l) ∧ Keep NoneOf h h' := by
 refine WF_of (by rw [lp.pg]; exact S.pg236) (lp.no ⟨rfl, rfl⟩) ?_
 show W p S.b236 _ _ (retQ [.t 2] _)
 unfold S.b236
 simp
 refine W_loop (SpI l h) ?_ l.length ⟨v, l, rfl, rfl, Keep.refl _ _, s.mono fun _ _ => trivial, rfl⟩
 rintro m e h1 ⟨v1, l1, rfl, rfl, k1, s1, hs⟩
 rw [hs]
 have n1 := s1.len (by decide)
 by_cases h0 : l1 = []
 ·subst h0
  have n1 : lenV h1 .sl v1 = some (.int .i64 0) := n1
  simp [n1, shapedP]
  exact k1
 ·have hlen : 0 < l1.length := List.length_pos_iff.2 h0
  have hlen' : (0 : Int) < l1.length := by omega
  obtain ⟨M, hM⟩ : ∃ M : Obj, M = .map [(.str wSend, .int .i64 3, 0), (.str wRecv, .int .i64 2, 1)] 2 := ⟨_, rfl⟩
  have kap : Keep NoneOf h1 (h1 ++ [M]) := Keep.app _ _ _
  have s2 := s1.on kap
  have n2 := s2.len (by decide)
  have lk : ∀ w : Wd, lookupV (h1 ++ [M]) false .s (.int .i64 0) (.mp h1.length) (.str w) = some (.int .i64 (if w = wSend then 3 else if w = wRecv then 2 else 0)) := by
   exact fun w => caseMap_look (by simp [hM]) w
  have mM : Obj.map [(.str [115, 101, 110, 100], .int .i64 3, 0), (.str [114, 101, 99, 118], .int .i64 2, 1)] 2 = M := hM.symm
  obtain ⟨b1, o1, row, x1, x2, x3, x4⟩ := s2.row (k := .i64) (by decide) hlen
  have x4 : row = [.str l1[0]] := x4
  have x1 : idxAddrV 1 v1 (.int .i64 0) = some (.ptr b1 o1) := x1
  simp only [Cod.str] at x2 x3
  have x5 := x3 0 (by decide)
  have hat : at_ l1 0 = l1[0] := by simp [at_, List.getElem?_eq_getElem hlen]
  rw [x4, ← hat] at x5
  simp at x5
  have next : ∀ n : Nat, n ≤ l1.length → 0 < n → ∃ v' h2, slSl (h1 ++ [M]) 1 v1 (some (.int .i64 n)) none = some (v', h2) ∧ Keep NoneOf h h2 ∧ Sl .str h2 Any v' (l1.drop n) := fun n hn _ => by
   obtain ⟨v', h2, y1, y2, y3⟩ := s2.tail (k := .i64) (m := n) (by decide) hn
   exact ⟨v', h2, y1, (k1.trans kap).trans y3, y2.mono fun _ _ => trivial⟩
  by_cases a : at_ l1 0 = wSend
  ·rw [shaped3 h0 a] at hs ⊢
   by_cases a3 : l1.length < 3
   ·have a3' : (l1.length : Int) < 3 := by omega
    rw [if_pos a3]
    simp [n1, hlen, hlen', mapupV, findKey, eqKind, mM, x1, x5, lk, a, n2, a3, a3']
    exact k1.trans kap
   ·have a3' : ¬ (l1.length : Int) < 3 := by omega
    rw [if_neg a3] at hs ⊢
    obtain ⟨v', h2, y1, y2, y3⟩ := next 3 (by omega) (by decide)
    have y1 : slSl (h1 ++ [M]) 1 v1 (some (.int .i64 3)) none = some (v', h2) := y1
    simp [n1, hlen, hlen', mapupV, findKey, eqKind, mM, x1, x5, lk, a, n2, a3, a3', y1]
    exact ⟨_, by rw [List.length_drop]; omega, v', _, rfl, rfl, y2, y3, hs⟩
  by_cases b : at_ l1 0 = wRecv
  ·rw [shaped2 h0 b] at hs ⊢
   by_cases a3 : l1.length < 2
   ·have a3' : (l1.length : Int) < 2 := by omega
    rw [if_pos a3]
    simp [n1, hlen, hlen', mapupV, findKey, eqKind, mM, x1, x5, lk, a, b, n2, a3, a3']
    exact k1.trans kap
   ·have a3' : ¬ (l1.length : Int) < 2 := by omega
    rw [if_neg a3] at hs ⊢
    obtain ⟨v', h2, y1, y2, y3⟩ := next 2 (by omega) (by decide)
    have y1 : slSl (h1 ++ [M]) 1 v1 (some (.int .i64 2)) none = some (v', h2) := y1
    simp [n1, hlen, hlen', mapupV, findKey, eqKind, mM, x1, x5, lk, a, b, n2, a3, a3', y1]
    exact ⟨_, by rw [List.length_drop]; omega, v', _, rfl, rfl, y2, y3, hs⟩
  ·rw [shaped0 h0 a b]
   simp [n1, hlen, hlen', mapupV, findKey, eqKind, mM, x1, x5, lk, a, b, n2]
   exact k1.trans kap
theorem opCount_spec (lp : LP p) {h : Heap} {k : Int} {v : CV} {l : List Wd} {P : Nat → Prop} (s : Sl .str h P v l) (hl : l.length ≤ big) :
  WF p 230 [.int .i64 k, v] h fun r h' => r = .bool (countP k l) ∧ Keep NoneOf h h' := by
 refine WF_of (by rw [lp.pg]; exact S.pg230) (lp.no ⟨rfl, rfl⟩) ?_
 show W p S.b230 _ _ (retQ [.t 4] _)
 unfold S.b230 countP
 have n0 := s.len (by decide)
 by_cases h4 : k = 4
 ·simp [n0, h4]
  exact ⟨by constructor <;> intro h <;> omega, Keep.refl _ _⟩
 by_cases h5 : k = 5
 ·simp [n0, h5]
  exact ⟨by constructor <;> intro h <;> omega, Keep.refl _ _⟩
 by_cases h7 : k = 7
 ·subst h7
  by_cases h0 : l = []
  ·subst h0
   have n0 : lenV h .sl v = some (.int .i64 0) := n0
   simp [n0]
   exact Keep.refl _ _
  ·have hlen : 0 < l.length := List.length_pos_iff.2 h0
   have hlen' : (1 : Int) ≤ l.length := by omega
   have hlen2 : 1 ≤ l.length := by omega
   obtain ⟨v', h2, y1, y2, y3⟩ := s.tail (k := .i64) (m := 1) (by decide) hlen2
   have y1 : slSl h 1 v (some (.int .i64 1)) none = some (v', h2) := y1
   have hm : (match l with | [] => false | _ :: r => shapedP r) = shapedP (l.drop 1) := by cases l <;> first | exact absurd rfl h0 | rfl
   simp only [show ¬ (7 : Int) = 4 by decide, show ¬ (7 : Int) = 5 by decide, if_false, if_true, hm]
   simp [n0, hlen', hlen2, y1]
   refine (opShaped_spec lp y2 (by rw [List.length_drop]; omega)).mono ?_
   rintro r h3 ⟨rfl, k3⟩
   simp
   exact ⟨by cases l <;> first | exact absurd rfl h0 | rfl, y3.trans k3⟩
 by_cases h9 : k = 9
 ·simp [n0, h9]
  exact Keep.refl _ _
 ·simp [n0, h4, h5, h7, h9]
  exact ⟨by constructor <;> intro h <;> omega, Keep.refl _ _⟩
set_option maxHeartbeats 1000000
def rd1 (k : Int) (l : List Wd) : Int × Int × List Wd := if k = 7 ∨ k = 9 then (0, 0, l) else ((numR 0 (at_ l 0)).1, (numR 0 (at_ l 0)).2, l.tail)
def rd2 (k : Int) (g : Int × Int × List Wd) : Int × Int × List Wd := if k = 4 then ((numR g.2.1 (at_ g.2.2 0)).1, (numR g.2.1 (at_ g.2.2 0)).2, g.2.2.tail) else (0, g.2.1, g.2.2)
def rd3 (k : Int) (g : Int × Int × List Wd) : Int × Int × List Wd := if isWait k = true then ((waitR g.2.1 (at_ g.2.2 0)).1, (waitR g.2.1 (at_ g.2.2 0)).2, g.2.2.tail) else (0, g.2.1, g.2.2)
structure Staged (k : Int) (l : List Wd) : Prop where
 r : readP k l = (⟨k, (rd1 k l).1, (rd2 k (rd1 k l)).1, (rd3 k (rd2 k (rd1 k l))).1, (runP (rd3 k (rd2 k (rd1 k l))).2.2 [] (rd3 k (rd2 k (rd1 k l))).2.1).1⟩, (runP (rd3 k (rd2 k (rd1 k l))).2.2 [] (rd3 k (rd2 k (rd1 k l))).2.1).2)
 s : shapedP (rd3 k (rd2 k (rd1 k l))).2.2 = true
 n1 : ¬ (k = 7 ∨ k = 9) → l ≠ []
 n2 : k = 4 → (rd1 k l).2.2 ≠ []
 n3 : isWait k = true → (rd2 k (rd1 k l)).2.2 ≠ []
theorem staged {k : Int} {l : List Wd} (h0 : 1 ≤ k) (h9 : k ≤ 9) (hc : countP k l = true) : Staged k l := by
 unfold countP at hc
 by_cases h4 : k = 4
 ·subst h4
  simp at hc
  match l, hc with
  | [a, b, c], _ =>
    constructor
    ·rfl
    ·rfl
    all_goals simp [rd1, rd2, rd3]
 by_cases h5 : k = 5
 ·subst h5
  simp at hc
  match l, hc with
  | [a, b], _ =>
    constructor
    ·rfl
    ·rfl
    all_goals simp [rd1, rd2, rd3]
 by_cases h7 : k = 7
 ·subst h7
  match l, hc with
  | a :: r, hc =>
    constructor
    ·rfl
    ·exact hc
    all_goals simp [rd1, rd2, rd3]
 by_cases h9 : k = 9
 ·subst h9
  simp at hc
  subst hc
  constructor
  ·rfl
  ·rfl
  all_goals simp [rd1, rd2, rd3, isWait]
 ·rw [if_neg h4, if_neg h5, if_neg h7, if_neg h9] at hc
  simp at hc
  have hw : isWait k = false := by simp [isWait, h4, h5, h7]
  match l, hc with
  | [a], _ =>
    constructor
    ·unfold readP
     rw [if_neg h4, if_neg h5, if_neg h7, if_neg h9]
     simp [rd1, rd2, rd3, h4, h7, h9, hw, runP, at_]
    ·simp [rd1, rd2, rd3, h4, h7, h9, hw, shapedP]
    ·simp
    ·exact fun h => absurd h h4
    ·intro h
     rw [hw] at h
     cases h
structure OSp where
 A : Nat
 O : Nat
 R : Nat
def OSp.Q (s : OSp) (cv : CV) (k : Nat) : Prop := k ≠ s.R ∧ k ≠ s.O ∧ cv.blk ≠ some k
def oCells (x : OpV) (cv : CV) : List CV := [.int .i64 x.kind, .int .i64 x.n, .int .i64 x.v, .int .i64 x.wait, cv]
structure OpH (h : Heap) (s : OSp) (x : OpV) (cv : CV) (l : List Wd) (e : Int) (h' : Heap) : Prop where
 k : Keep NoneOf h h'
 a : h'[s.A]? = some (.arr (oCells op0 .nils) .tight)
 o : h'[s.O]? = some (.arr (oCells x cv) .tight)
 ow : OwnL caseC h' NoneOf cv x.cases
 ob : ∀ b, cv.blk = some b → h.length ≤ b ∧ b ≠ s.A ∧ b ≠ s.O ∧ b ≠ s.R
 r : RdI (s.Q cv) h' s.R l e
 a0 : h.length ≤ s.A
 o0 : h.length ≤ s.O
 r0 : h.length ≤ s.R
 d1 : s.A ≠ s.R
 d2 : s.A ≠ s.O
 d3 : s.O ≠ s.R
 w : ∀ u ∈ l, u.length < 4294967281
section
variable {h h1 h2 : Heap} {s : OSp} {x : OpV} {cv : CV} {l : List Wd} {e e' : Int}
theorem OpH.rd (q : OpH h s x cv l e h1) : RdP (s.Q cv) s.R h1.length :=
 ⟨fun k hk => hk.1, fun k hk => ⟨by have := q.r.lt; omega, by have := lt_of_get q.o; omega, fun hb => by have := q.ow.blk k hb; omega⟩⟩
theorem OpH.scalar (q : OpH h s x cv l e h1) : cv.scalar = true := q.ow.scalar
theorem OpH.read {l' : List Wd} (q : OpH h s x cv l e h1) (k : Keep (fun k => k = s.R) h1 h2) (r : RdI (s.Q cv) h2 s.R l' e') (hl : ∀ u ∈ l', u ∈ l) : OpH h s x cv l' e' h2 :=
 ⟨q.k.then k fun b hb e => by have := q.r0; omega, k.at q.a q.d1, k.at q.o q.d3, q.ow.keep k (fun b hb => (q.ob b hb).2.2.2) (fun _ hb => hb.elim), q.ob, r, q.a0, q.o0, q.r0, q.d1, q.d2, q.d3, fun u hu => q.w u (hl u hu)⟩
theorem OpH.lay (q : OpH h s x cv l e h1) (y : OpV) (hy : y.cases = x.cases) : OpH h s y cv l e (h1.set s.O (.arr (oCells y cv) .tight)) := by
 have ke : Keep (fun b => b = s.O) h1 (h1.set s.O (.arr (oCells y cv) .tight)) := Keep.set _ _ rfl
 obtain ⟨v, a, sl⟩ := q.r
 exact ⟨q.k.then ke fun b hb e => by have := q.o0; omega, ke.at q.a q.d2, get_set_self (lt_of_get q.o), hy ▸ q.ow.keep ke (fun b hb => (q.ob b hb).2.2.1) (fun _ hb => hb.elim), q.ob, ⟨v, ke.at a (fun e => q.d3 e.symm), sl.keep ke fun k hk => hk.2.1⟩, q.a0, q.o0, q.r0, q.d1, q.d2, q.d3, q.w⟩
theorem OpH.push {c : Case} {n : Nat} {K : CV × Heap → Prop} (q : OpH h s x cv l e h1) (hl : x.cases.length ≤ 1000000) (hn : n = 1)
  (kk : ∀ cv' h2, h2[s.O]? = some (.arr (oCells x cv) .tight) → cv'.scalar = true → OpH h s { x with cases := x.cases ++ [c] } cv' l e (h2.set s.O (.arr (oCells x cv') .tight)) → K (cv', h2)) :
  OV (appendTo (h1 ++ [.arr (caL c) .tight]) 3 cv n (caL c)) K := by
 subst hn
 have kap : Keep NoneOf h1 (h1 ++ [.arr (caL c) .tight]) := Keep.app _ _ _
 refine OV_push (e := caseC) (x := c) (q.ow.on kap) rfl (fun _ hb => hb.elim) (by simp [big]; omega) (by decide) ?_
 intro cv' h2 o2 k2 hb2
 have gO := k2.at (kap.at q.o id) (fun hb => (q.ob _ hb).2.2.1 rfl)
 have gA := k2.at (kap.at q.a id) (fun hb => (q.ob _ hb).2.1 rfl)
 have hlo := lt_of_get q.o
 have hla := lt_of_get q.a
 have hlr := q.r.lt
 have hob : ∀ b, cv'.blk = some b → h.length ≤ b ∧ b ≠ s.A ∧ b ≠ s.O ∧ b ≠ s.R := by
  intro b hb
  rcases hb2 b hb with hq | hq
  ·exact q.ob b hq
  ·have := q.k.len
   simp at hq
   exact ⟨by omega, by omega, by omega, by omega⟩
 refine kk cv' h2 gO o2.scalar ?_
 have ke : Keep (fun b => b = s.O) h2 (h2.set s.O (.arr (oCells x cv') .tight)) := Keep.set _ _ rfl
 have k3 : Keep NoneOf h h2 := (q.k.trans kap).then k2 fun b hb e => by have := q.ob b e; omega
 refine ⟨k3.then ke fun b hb e => by have := q.o0; omega, ke.at gA q.d2, get_set_self (lt_of_get gO), o2.keep ke (fun b hb => (hob b hb).2.2.1) (fun _ hb => hb.elim), hob, ?_, q.a0, q.o0, q.r0, q.d1, q.d2, q.d3, q.w⟩
 obtain ⟨v, a, sl⟩ := q.r.before
 have gR := k2.at (kap.at a id) (fun hb => (q.ob _ hb).2.2.2 rfl)
 refine ⟨v, ke.at gR (fun e => q.d3 e.symm), (((sl.on kap).keep k2 fun k hk hb => hk.1.2.2 hb).keep ke fun k hk => hk.1.2.1).mono fun k hk => ⟨hk.1.1, hk.1.2.1, fun hb => ?_⟩⟩
 rcases hb2 k hb with hq | hq
 ·exact hk.1.2.2 hq
 ·simp at hq
  omega
end
def OpI (h : Heap) (s : OSp) (x : OpV) (l : List Wd) (e : Int) (env : Env) (h' : Heap) : Prop :=
 (∃ r, env = (2, .ptr s.A 0) :: (6, .ptr s.O 0) :: (7, .ptr s.R 0) :: r) ∧ ∃ cv, OpH h s x cv l e h'
def OqI (h : Heap) (s : OSp) (x : OpV) (l0 : List Wd) (e0 : Int) (m : Nat) (env : Env) (h' : Heap) : Prop :=
 ∃ (l : List Wd) (acc : List Case) (e : Int) (cv : CV), m = l.length ∧ (∃ r, env = (2, .ptr s.A 0) :: (6, .ptr s.O 0) :: (7, .ptr s.R 0) :: r) ∧ OpH h s { x with cases := acc } cv l e h' ∧ runP l0 [] e0 = runP l acc e ∧ shapedP l = true ∧ acc.length + l.length ≤ l0.length
theorem oneL_mem {l : List Wd} : ∀ u ∈ oneL l, u ∈ l := by
 intro u hu
 unfold oneL at hu
 split at hu <;> exact List.mem_of_mem_drop hu
theorem oneL_len {l : List Wd} (hl : 2 ≤ l.length) : (oneL l).length + 2 ≤ l.length := by
 unfold oneL
 split <;> rw [List.length_drop] <;> omega
theorem idxO_ge {w : Wd} (h : ¬ kindOf w < 1) : idxO w = kindOf w := by unfold idxO; rw [if_neg h]
theorem idxO_lt {w : Wd} (h : kindOf w < 1) : idxO w = -1 := by unfold idxO; rw [if_pos h]
@[simp] theorem oC_0 {x : OpV} {cv : CV} : (oCells x cv)[0]? = some (.int .i64 x.kind) := rfl
@[simp] theorem oC_1 {x : OpV} {cv : CV} : (oCells x cv)[1]? = some (.int .i64 x.n) := rfl
@[simp] theorem oC_2 {x : OpV} {cv : CV} : (oCells x cv)[2]? = some (.int .i64 x.v) := rfl
@[simp] theorem oC_3 {x : OpV} {cv : CV} : (oCells x cv)[3]? = some (.int .i64 x.wait) := rfl
@[simp] theorem oC_4 {x : OpV} {cv : CV} : (oCells x cv)[4]? = some cv := rfl
@[simp] theorem oD_0 {x : OpV} {cv : CV} (h : 0 < (oCells x cv).length) : (oCells x cv)[0] = .int .i64 x.kind := rfl
@[simp] theorem oD_1 {x : OpV} {cv : CV} (h : 1 < (oCells x cv).length) : (oCells x cv)[1] = .int .i64 x.n := rfl
@[simp] theorem oD_2 {x : OpV} {cv : CV} (h : 2 < (oCells x cv).length) : (oCells x cv)[2] = .int .i64 x.v := rfl
@[simp] theorem oD_3 {x : OpV} {cv : CV} (h : 3 < (oCells x cv).length) : (oCells x cv)[3] = .int .i64 x.wait := rfl
@[simp] theorem oD_4 {x : OpV} {cv : CV} (h : 4 < (oCells x cv).length) : (oCells x cv)[4] = cv := rfl
@[simp] theorem op0_k : op0.kind = 0 := rfl
def ParK (h : Heap) (q : OpV × Int) (r : CV) (h' : Heap) : Prop := (∃ c, r = .tup [.agg c, .int .i64 q.2] ∧ opC.rep h' (From h) c q.1) ∧ Keep NoneOf h h'
def OpM (h : Heap) (s : Wd) (e : Env) (h' : Heap) : Prop :=
 ∃ (sp : OSp) (kk : Int) (L : List Wd), e = [(2, .ptr sp.A 0), (6, .ptr sp.O 0), (7, .ptr sp.R 0)] ∧ OpH h sp ⟨kk, 0, 0, 0, []⟩ .nils L 0 h' ∧ 1 ≤ kk ∧ kk ≤ 9 ∧ countP kk L = true ∧ parseP s = finP (readP kk L) ∧ L.length ≤ 100000
theorem opParse_head (lp : LP p) {s : Wd} {h : Heap} (hs : s.length ≤ 100000) : W p (front 7 S.b222) [(0, .str s)] h (midQ (OpM h s) (retQ [.cell (some 5) 2, .t 3] (ParK h (parseP s)))) := by
 unfold S.b222 ParK
 simp only [front]
 have ca : ∀ l, (CV.agg l).cells = l := fun _ => rfl
 have cn : (CV.nils).cells = [.nils] := rfl
 have zz : ([.int .i64 0, .int .i64 0, .int .i64 0, .int .i64 0, .nils] : List CV) = oCells op0 .nils := rfl
 simp only [zz]
 have zb : fillC (oCells op0 .nils) [] = some (oCells op0 .nils) := rfl
 have lE : ∀ x cv, (oCells x cv).length = 5 := fun _ _ => rfl
 have fsc : ∀ x cv, cv.scalar = true → (oCells x cv).all CV.scalar = true := fun x cv hc => by simp only [oCells, List.all_cons, List.all_nil, hc]; rfl
 simp [ca, cn]
 refine (wordSplit_spec lp (by omega)).mono ?_
 rintro r h1 ⟨wv, rfl, sl, k1⟩
 have gA := k1.at (b := h.length) (o := .arr (oCells op0 .nils) .tight) (by simp) id
 have hwv := sl.scalar
 have stB : storeAt (h1 ++ [.arr [.nils] .tight]) h1.length 0 [wv] = some (h1 ++ [.arr [wv] .tight]) := store_new rfl (by simp [hwv])
 have lB : ∀ o, loadAt (h1 ++ [.arr [wv] .tight]) h1.length o none = ([wv] : List CV)[o]? := fun o => one0 o
 have kB : Keep NoneOf h1 (h1 ++ [.arr [wv] .tight]) := Keep.app _ _ _
 have K1 : Keep NoneOf h (h1 ++ [.arr [wv] .tight]) := (((Keep.app _ _ _).trans k1).trans kB)
 have gA1 := kB.at gA id
 have gB : (h1 ++ [Obj.arr [wv] .tight])[h1.length]? = some (.arr [wv] .tight) := by simp
 have hlt1 : h.length < h1.length := lt_of_get gA
 have fs := fits_scalar hwv
 have cs := CV.cells_scalar hwv
 have s1 := sl.on kB
 generalize hH1 : h1 ++ [Obj.arr [wv] .tight] = H at *
 have stA : ∀ H' : Heap, H'[h.length]? = some (.arr (oCells op0 .nils) .tight) → storeAt H' h.length 0 (oCells op0 .nils) = some (H'.set h.length (.arr (oCells op0 .nils) .tight)) := fun H' g => sto g rfl rfl
 have ret0 : ∀ {H' : Heap}, Keep NoneOf h H' → H'[h.length]? = some (.arr (oCells op0 .nils) .tight) → loadAt (H'.set h.length (.arr (oCells op0 .nils) .tight)) h.length 0 (some 5) = some (.agg (oCells op0 .nils)) ∧ Keep NoneOf h (H'.set h.length (.arr (oCells op0 .nils) .tight)) := fun {H'} k g =>
  ⟨ldw (get_set_self (lt_of_get g)) rfl, k.then (Keep.set (S := fun b => b = h.length) _ _ rfl) fun b hb e => by omega⟩
 have rp0 : ∀ H' : Heap, opC.rep H' (From h) (oCells op0 .nils) op0 := fun H' => ⟨.nils, rfl, Sl.nil⟩
 cases hws : wordsP s with
 | none =>
   have hP : parseP s = (op0, 2) := by unfold parseP; rw [hws]
   obtain ⟨q1, q2⟩ := ret0 K1 gA1
   rw [hP]
   simp [errOf, ca, cn, fs, cs, stB, hH1, zb, lE, stA _ gA1, q1]
   exact ⟨rp0 _, q2⟩
 | some l =>
   rw [hws] at sl s1
   have sl : Sl .str h1 (From (h ++ [.arr (oCells op0 .nils) .tight])) wv l := sl
   have s1 : Sl .str H (From (h ++ [.arr (oCells op0 .nils) .tight])) wv l := s1
   have nl := s1.len (by decide)
   have hwn := words_ne hws
   have hll := words_len hws
   have kO : Keep NoneOf H (H ++ [.arr (oCells op0 .nils) .tight]) := Keep.app _ _ _
   have stO : ∀ x cv, cv.scalar = true → storeAt (H ++ [.arr (oCells op0 .nils) .tight]) H.length 0 (oCells x cv) = some (H ++ [.arr (oCells x cv) .tight]) := fun x cv hc => store_new rfl (fsc x cv hc)
   have lO : ∀ x cv o, loadAt (H ++ [.arr (oCells x cv) .tight]) H.length o none = (oCells x cv)[o]? := fun x cv o => one0 o
   have gO : (H ++ [Obj.arr (oCells op0 .nils) .tight])[H.length]? = some (.arr (oCells op0 .nils) .tight) := by simp
   have gA2 := kO.at gA1 id
   have gB2 := kO.at gB id
   have K2 := K1.trans kO
   have hltH : h1.length < H.length := by rw [← hH1]; simp
   have lB2 := ld gB2
   have s2 := s1.on kO
   have nl2 := s2.len (by decide)
   have e0 : (oCells op0 .nils)[0]? = some (.int .i64 0) := rfl
   by_cases h0 : l = []
   ·subst h0
    have hP : parseP s = (op0, 2) := by unfold parseP; rw [hws]
    obtain ⟨q1, q2⟩ := ret0 K2 gA2
    have nl2 : lenV (H ++ [Obj.arr (oCells op0 .nils) .tight]) .sl wv = some (.int .i64 0) := nl2
    rw [hP]
    simp [errOf, ca, cn, fs, cs, stB, hH1, zb, lE, stO _ .nils rfl, lB2, nl2, lO, stA _ gA2, q1]
    exact ⟨rp0 _, q2⟩
   ·have hl1 : 0 < l.length := List.length_pos_iff.2 h0
    have hl1' : (0 : Int) < l.length := by omega
    have hat : at_ l 0 = l[0] := by simp [at_, List.getElem?_eq_getElem hl1]
    have hw0 : at_ l 0 ≠ [] := by rw [hat]; exact (hwn _ (List.getElem_mem hl1)).1
    simp [errOf, ca, cn, fs, cs, stB, hH1, zb, lE, stO _ .nils rfl, lB2, nl2, hl1, hl1']
    refine (kinds_spec lp).mono ?_
    rintro r h2 ⟨sv, rfl, t2, k2⟩
    refine (opIndex_spec lp (k2.at gB2 id) (s2.on k2) hl1 hw0 t2).mono ?_
    rintro r h3 ⟨rfl, k3⟩
    have K3 := (K2.trans k2).trans k3
    have gA3 := k3.at (k2.at gA2 id) id
    have gB3 := k3.at (k2.at gB2 id) id
    have gO3 := k3.at (k2.at gO id) id
    have s3 := (s2.on k2).on k3
    have sto0 := sto1 gO3 (o := 0) (v := .int .i64 (idxO (at_ l 0))) (by rw [lE]; omega) rfl
    have hset : (oCells op0 .nils).set 0 (.int .i64 (idxO (at_ l 0))) = oCells { op0 with kind := idxO (at_ l 0) } .nils := rfl
    rw [hset] at sto0
    have kS : Keep (fun b => b = H.length) h3 (h3.set H.length (.arr (oCells { op0 with kind := idxO (at_ l 0) } .nils) .tight)) := Keep.set _ _ rfl
    have gO4 : (h3.set H.length (.arr (oCells { op0 with kind := idxO (at_ l 0) } .nils) .tight))[H.length]? = some (.arr (oCells { op0 with kind := idxO (at_ l 0) } .nils) .tight) := get_set_self (lt_of_get gO3)
    have gA4 := kS.at gA3 (by omega)
    have gB4 := kS.at gB3 (by omega)
    have s4 : Sl .str (h3.set H.length (.arr (oCells { op0 with kind := idxO (at_ l 0) } .nils) .tight)) (fun k => k < H.length) wv l := ((s1.lt.mono (Q := fun k => k < H.length) fun k hk => hk.2).on ((kO.trans k2).trans k3)).keep kS fun k hk e => by omega
    have K4 := K3.then kS fun b hb e => by omega
    simp [ca, cn, sto0]
    generalize hH4 : h3.set H.length (.arr (oCells { op0 with kind := idxO (at_ l 0) } .nils) .tight) = H4 at *
    have lO4 := ld gO4
    have lB4 := ld gB4
    have nl4 := s4.len (by decide)
    have e4 : (oCells { op0 with kind := idxO (at_ l 0) } .nils)[0]? = some (.int .i64 (idxO (at_ l 0))) := rfl
    by_cases hk : kindOf (at_ l 0) < 1
    ·have hP : parseP s = (op0, 2) := by
      unfold parseP; rw [hws]
      match l, h0 with
      | w :: r, _ =>
        simp only [parseW]
        rw [if_pos (.inl hk)]
     obtain ⟨q1, q2⟩ := ret0 K4 gA4
     rw [hP]
     rw [idxO_lt hk] at lO4
     simp [idxO_lt hk, lO4, lB4, zb, lE, stA _ gA4, q1]
     exact ⟨rp0 _, q2⟩
    ·have hk9 := (kind_le (at_ l 0)).2
     rw [idxO_ge hk] at lO4 gO4
     have hPW : parseP s = if countP (kindOf (at_ l 0)) l.tail = false then (op0, 2) else finP (readP (kindOf (at_ l 0)) l.tail) := by
      unfold parseP; rw [hws]
      match l, h0 with
      | w :: r, _ =>
        simp only [parseW]
        rw [show at_ (w :: r) 0 = w from rfl] at hk ⊢
        by_cases hc : countP (kindOf w) r = false
        ·rw [if_pos (.inr hc), List.tail_cons, if_pos hc]
        ·rw [if_neg (fun hq => by rcases hq with hq | hq <;> contradiction), List.tail_cons, if_neg hc]
     have hwt : ∀ u ∈ l.tail, u.length < 4294967281 := fun u hu => by have := (hwn u (List.mem_of_mem_tail hu)).2; omega
     have hllt : l.tail.length ≤ 100000 := by rw [List.length_tail]; omega
     generalize kindOf (at_ l 0) = kk at *
     obtain ⟨tv, H5, y1, y2, y3⟩ := s4.tail (k := .i64) (m := 1) (by decide) (by omega)
     have y1 : slSl H4 1 wv (some (.int .i64 1)) none = some (tv, H5) := y1
     rw [List.drop_one] at y2
     simp [hk, lO4, lB4, y1]
     refine (opCount_spec lp y2 (by simp [big] at hllt ⊢; omega)).mono ?_
     rintro r H6 ⟨rfl, k6⟩
     have K6 := (K4.trans y3).trans k6
     have gA6 := k6.at (y3.at gA4 id) id
     have gB6 := k6.at (y3.at gB4 id) id
     have gO6 := k6.at (y3.at gO4 id) id
     have s6 := (s4.on y3).on k6
     have lB6 := ld gB6
     by_cases hc : countP kk l.tail = false
     ·rw [if_pos hc] at hPW
      obtain ⟨q1, q2⟩ := ret0 K6 gA6
      rw [hPW]
      simp [hc, zb, lE, stA _ gA6, q1]
      exact ⟨rp0 _, q2⟩
     ·rw [if_neg hc] at hPW
      rw [Bool.not_eq_false] at hc
      have hst := staged (by omega) hk9 hc
      obtain ⟨tv2, H7, w1, w2, w3⟩ := s6.tail (k := .i64) (m := 1) (by decide) (by omega)
      have w1 : slSl H6 1 wv (some (.int .i64 1)) none = some (tv2, H7) := w1
      rw [List.drop_one] at w2
      have kR : Keep NoneOf H7 (H7 ++ [.arr [tv2, .int .i64 0] .tight]) := Keep.app _ _ _
      have gO8 := kR.at (w3.at gO6 id) id
      have gA8 := kR.at (w3.at gA6 id) id
      have hlO : H.length < H6.length := lt_of_get gO6
      have hl67 := w3.len
      have gR8 : (H7 ++ [Obj.arr [tv2, .int .i64 0] .tight])[H7.length]? = some (.arr [tv2, .int .i64 0] .tight) := by simp
      have lO8 := ld gO8
      have q0 : OpH h ⟨h.length, H.length, H7.length⟩ ⟨kk, 0, 0, 0, []⟩ .nils l.tail 0 (H7 ++ [.arr [tv2, .int .i64 0] .tight]) := by
       refine ⟨(K6.trans w3).trans kR, gA8, gO8, OwnL.nil, by simp [CV.blk], ⟨tv2, gR8, ?_⟩, by simp, by simp only; omega, by simp only; omega, by simp only; omega, by simp only; omega, by simp only; omega, hwt⟩
       refine (w2.lt.mono fun k hk => ⟨by simp only; omega, ?_, by simp [CV.blk]⟩).on kR
       simp only
       rcases hk.1 with hq | hq <;> omega
      have htc := CV.cells_scalar w2.scalar
      simp [hc, lB6, w1, fillC, splice, ca, htc]
      exact ⟨⟨_, _, _⟩, kk, l.tail, rfl, q0, by omega, hk9, hc, hPW, hllt⟩
def OpN (h : Heap) (s : Wd) (e : Env) (h' : Heap) : Prop :=
 ∃ (sp : OSp) (x : OpV) (cv : CV) (L : List Wd) (er : Int), (∃ r, e = (2, .ptr sp.A 0) :: (6, .ptr sp.O 0) :: (7, .ptr sp.R 0) :: r) ∧ x.cases = [] ∧ OpH h sp x cv L er h' ∧ shapedP L = true ∧ parseP s = finP ({ x with cases := (runP L [] er).1 }, (runP L [] er).2) ∧ L.length ≤ 100000
theorem opParse_mid (lp : LP p) {s : Wd} {h h' : Heap} {e : Env} {Q : Ex → Env → Heap → Prop} (m : OpM h s e h') : W p (front 3 (back 7 S.b222)) e h' (midQ (OpN h s) Q) := by
 obtain ⟨sp, kk, L, rfl, q0, h1, h9, hc, hP, hL⟩ := m
 unfold S.b222
 simp only [front, back]
 have hst := staged h1 h9 hc
 rw [hst.r] at hP
 have hn1 := hst.n1
 have hn2 := hst.n2
 have hn3 := hst.n3
 have hsh := hst.s
 have hg1 : rd1 kk L = if kk = 7 ∨ kk = 9 then (0, 0, L) else ((numR 0 (at_ L 0)).1, (numR 0 (at_ L 0)).2, L.tail) := rfl
 have hg2 : rd2 kk (rd1 kk L) = if kk = 4 then ((numR (rd1 kk L).2.1 (at_ (rd1 kk L).2.2 0)).1, (numR (rd1 kk L).2.1 (at_ (rd1 kk L).2.2 0)).2, (rd1 kk L).2.2.tail) else (0, (rd1 kk L).2.1, (rd1 kk L).2.2) := rfl
 have hg3 : rd3 kk (rd2 kk (rd1 kk L)) = if isWait kk = true then ((waitR (rd2 kk (rd1 kk L)).2.1 (at_ (rd2 kk (rd1 kk L)).2.2 0)).1, (waitR (rd2 kk (rd1 kk L)).2.1 (at_ (rd2 kk (rd1 kk L)).2.2 0)).2, (rd2 kk (rd1 kk L)).2.2.tail) else (0, (rd2 kk (rd1 kk L)).2.1, (rd2 kk (rd1 kk L)).2.2) := rfl
 have hl1 : (rd1 kk L).2.2.length ≤ 100000 := by rw [hg1]; split <;> simp <;> omega
 have hl2 : (rd2 kk (rd1 kk L)).2.2.length ≤ 100000 := by rw [hg2]; split <;> simp <;> omega
 have hl3 : (rd3 kk (rd2 kk (rd1 kk L))).2.2.length ≤ 100000 := by rw [hg3]; split <;> simp <;> omega
 clear hst hc
 generalize rd3 kk (rd2 kk (rd1 kk L)) = g3 at *
 generalize rd2 kk (rd1 kk L) = g2 at *
 generalize rd1 kk L = g1 at *
 have lO := ld q0.o
 simp [lO]
 refine WO_cut (fun e' => e'.get 2 = some (.ptr sp.A 0) ∧ e'.get 6 = some (.ptr sp.O 0) ∧ e'.get 7 = some (.ptr sp.R 0) ∧ e'.get 48 = some (.bool (decide (¬ (kk = 7 ∨ kk = 9))))) ?_ ?_
 ·by_cases h7 : kk = 7
  ·simp [h7]
  ·by_cases h9 : kk = 9
   all_goals simp [h7, h9, lO]
 rintro e' ⟨p2, p6, p7, p48⟩
 have hset : ∀ (x : OpV) (cv v : CV), (oCells x cv).set 1 v = [.int .i64 x.kind, v, .int .i64 x.v, .int .i64 x.wait, cv] := fun _ _ _ => rfl
 have hset2 : ∀ (x : OpV) (cv v : CV), (oCells x cv).set 2 v = [.int .i64 x.kind, .int .i64 x.n, v, .int .i64 x.wait, cv] := fun _ _ _ => rfl
 have hset3 : ∀ (x : OpV) (cv v : CV), (oCells x cv).set 3 v = [.int .i64 x.kind, .int .i64 x.n, .int .i64 x.v, v, cv] := fun _ _ _ => rfl
 have lE : ∀ x cv, (oCells x cv).length = 5 := fun _ _ => rfl
 simp only [p2, p6, p7, p48]
 generalize hb : decide (¬ (kk = 7 ∨ kk = 9)) = b at *
 simp
 refine W_to (OpI h sp ⟨kk, g1.1, 0, 0, []⟩ g1.2.2 g1.2.1) ?_ ?_
 ·cases b with
  | false =>
    have hk : kk = 7 ∨ kk = 9 := by
     by_cases hq : kk = 7 ∨ kk = 9
     ·exact hq
     ·rw [decide_eq_true hq] at hb; cases hb
    rw [if_pos hk] at hg1
    subst hg1
    simp
    exact ⟨⟨_, rfl⟩, _, q0⟩
  | true =>
    have hk : ¬ (kk = 7 ∨ kk = 9) := by
     intro hq
     rw [decide_eq_false (fun hn => hn hq)] at hb
     cases hb
    rw [if_neg hk] at hg1
    subst hg1
    simp
    refine (opNumber_spec lp q0.rd q0.r (hn1 hk) q0.w).mono ?_
    rintro r h2 ⟨rfl, r2, k2⟩
    have q2 := q0.read k2 r2 fun u hu => List.mem_of_mem_tail hu
    have s2 := sto1 q2.o (o := 1) (v := .int .i64 (numR 0 (at_ L 0)).1) (by rw [lE]; omega) rfl
    rw [hset] at s2
    simp [CV.cells, s2]
    exact ⟨⟨_, rfl⟩, _, q2.lay ⟨kk, (numR 0 (at_ L 0)).1, 0, 0, []⟩ rfl⟩
 clear q0 lO p2 p6 p7 p48 e'
 rintro e' H1 ⟨⟨r1, rfl⟩, cv1, q1⟩
 have lO := ld q1.o
 simp [lO]
 refine W_to (OpI h sp ⟨kk, g1.1, g2.1, 0, []⟩ g2.2.2 g2.2.1) ?_ ?_
 ·by_cases h4 : kk = 4
  ·rw [if_pos h4] at hg2
   subst hg2
   subst h4
   simp
   refine (opNumber_spec lp q1.rd q1.r (hn2 rfl) q1.w).mono ?_
   rintro r h2 ⟨rfl, r2, k2⟩
   have q2 := q1.read k2 r2 fun u hu => List.mem_of_mem_tail hu
   have s2 := sto1 q2.o (o := 2) (v := .int .i64 (numR g1.2.1 (at_ g1.2.2 0)).1) (by rw [lE]; omega) rfl
   rw [hset2] at s2
   simp [CV.cells, s2]
   exact ⟨⟨_, rfl⟩, _, q2.lay ⟨4, g1.1, (numR g1.2.1 (at_ g1.2.2 0)).1, 0, []⟩ rfl⟩
  ·rw [if_neg h4] at hg2
   subst hg2
   simp [h4]
   exact ⟨⟨_, rfl⟩, _, q1⟩
 clear q1 lO
 rintro e' H2 ⟨⟨r2, rfl⟩, cv2, q2⟩
 have lO := ld q2.o
 simp [lO]
 refine WO_re_n ?_
 simp
 refine (kinds_spec lp).mono ?_
 rintro r H3 ⟨v, rfl, sl, k3⟩
 have q3 : OpH h sp ⟨kk, g1.1, g2.1, 0, []⟩ cv2 g2.2.2 g2.2.1 H3 := q2.read (k3.mono fun _ _ hn => hn.elim) (q2.r.on k3) fun u hu => hu
 clear lO
 have lO := ld q3.o
 refine ⟨fun c => by simp [recheckB, wanted, Env.get, cls, evOp, Opd.ev, withH, CV.eqb, lO, CV.eqb_refl], ?_⟩
 obtain ⟨b0, o0, x1, _, x3⟩ := kind_row (k := kk) sl h1 h9
 have x33 : loadAt H3 b0 (o0 + 3) none = some (.bool (isWait kk)) := x3 3 (by decide)
 simp [x1, x33]
 refine W_to (OpI h sp ⟨kk, g1.1, g2.1, g3.1, []⟩ g3.2.2 g3.2.1) ?_ ?_
 ·cases hw : isWait kk with
  | true =>
    rw [if_pos hw] at hg3
    subst hg3
    simp
    refine (opWaitR_spec lp q3.rd q3.r (hn3 hw) q3.w).mono ?_
    rintro r h4 ⟨rfl, r4, k4⟩
    have q4 := q3.read k4 r4 fun u hu => List.mem_of_mem_tail hu
    have s4 := sto1 q4.o (o := 3) (v := .int .i64 (waitR g2.2.1 (at_ g2.2.2 0)).1) (by rw [lE]; omega) rfl
    rw [hset3] at s4
    simp [CV.cells, s4]
    exact ⟨⟨_, rfl⟩, _, q4.lay ⟨kk, g1.1, g2.1, (waitR g2.2.1 (at_ g2.2.2 0)).1, []⟩ rfl⟩
  | false =>
    rw [if_neg (by rw [hw]; simp)] at hg3
    subst hg3
    simp
    exact ⟨⟨_, rfl⟩, _, q3⟩
 rintro e' H4 ⟨⟨r4, rfl⟩, cv4, q4⟩
 simp
 exact ⟨sp, _, cv4, g3.2.2, g3.2.1, ⟨_, rfl⟩, rfl, q4, hsh, hP, hl3⟩
theorem opParse_loop (lp : LP p) {s : Wd} {h h' : Heap} {e : Env} (m : OpN h s e h') : W p (back 10 S.b222) e h' (retQ [.cell (some 5) 2, .t 3] (ParK h (parseP s))) := by
 obtain ⟨sp, x, cv0, L, er, ⟨rr, rfl⟩, hx, q0, hsh, hP, hL⟩ := m
 unfold S.b222
 simp only [back]
 simp
 refine W_loop (OqI h sp x L er) ?_ L.length ⟨L, [], er, cv0, rfl, ⟨_, rfl⟩, hx ▸ q0, rfl, hsh, by simp⟩
 clear q0
 rintro m e H1 ⟨l, acc, e1, cv, rfl, ⟨r3, rfl⟩, q, hrun, hsl, hlen⟩
 obtain ⟨rv, gr, sr⟩ := q.r
 have lR := ld gr
 have nr := sr.len (by decide)
 by_cases h0 : l = []
 ·subst h0
  have nr : lenV H1 .sl rv = some (.int .i64 0) := nr
  have hrun : runP L [] er = (acc, e1) := hrun
  rw [hrun] at hP
  rw [hP]
  clear hP hrun hsl hlen
  simp only
  generalize hX : ({ x with cases := acc } : OpV) = X at *
  have hXc : X.cases = acc := by rw [← hX]
  have l9 := ldw q.o (show (oCells X cv).length = 5 from rfl)
  have hsc := q.scalar
  have fsc : (oCells X cv).all CV.scalar = true := by simp only [oCells, List.all_cons, List.all_nil, hsc]; rfl
  have lE : ∀ x cv, (oCells x cv).length = 5 := fun _ _ => rfl
  have gX : ∀ H' : Heap, Keep NoneOf h H' → H'[sp.A]? = some (.arr (oCells op0 .nils) .tight) → ∀ (y : OpV) (c : CV), (oCells y c).all CV.scalar = true → storeAt H' sp.A 0 (oCells y c) = some (H'.set sp.A (.arr (oCells y c) .tight)) ∧ loadAt (H'.set sp.A (.arr (oCells y c) .tight)) sp.A 0 (some 5) = some (.agg (oCells y c)) ∧ Keep NoneOf h (H'.set sp.A (.arr (oCells y c) .tight)) := fun H' k ga y c hc =>
   ⟨sto ga rfl hc, ldw (get_set_self (lt_of_get ga)) rfl, k.then (Keep.set (S := fun b => b = sp.A) _ _ rfl) fun b hb e => by have := q.a0; omega⟩
  have zz : ([.int .i64 0, .int .i64 0, .int .i64 0, .int .i64 0, .nils] : List CV) = oCells op0 .nils := rfl
  have zb : fillC (oCells op0 .nils) [] = some (oCells op0 .nils) := rfl
  have rp0 : ∀ H' : Heap, opC.rep H' (From h) (oCells op0 .nils) op0 := fun H' => ⟨.nils, rfl, Sl.nil⟩
  have hr0 := q.r0
  have hr1 := q.r.lt
  have slX : ∀ {H' : Heap} {S : Nat → Prop}, Keep S H1 H' → (∀ b, cv.blk = some b → ¬ S b) → opC.rep H' (From h) (oCells X cv) X := fun {H' S} k hS => by
   refine ⟨cv, rfl, ?_⟩
   refine (q.ow.keep k hS fun _ hb => hb.elim).sl.mono fun b hb => ?_
   rcases hb with hb | hb
   ·exact hb.elim
   ·exact (q.ob b hb).1
  by_cases he : e1 = 0
  ·subst he
   have hch : finP (X, 0) = if opCheckP X = 0 then (X, 0) else (op0, opCheckP X) := by unfold finP; rw [if_pos rfl]
   rw [hch]
   simp [lR, nr, l9]
   refine (opCheck_spec lp (slX (Keep.refl NoneOf H1) fun _ _ => id)).mono ?_
   rintro r H2 ⟨rfl, k2⟩
   clear hch
   generalize opCheckP X = ck at *
   have g2 := k2.at gr id
   have sB := sto1 g2 (o := 1) (v := .int .i64 ck) (by simp) rfl
   have hset : ([rv, .int .i64 0] : List CV).set 1 (.int .i64 ck) = [rv, .int .i64 ck] := rfl
   rw [hset] at sB
   have kB : Keep (fun b => b = sp.R) H2 (H2.set sp.R (.arr [rv, .int .i64 ck] .tight)) := Keep.set _ _ rfl
   have K3 : Keep NoneOf h (H2.set sp.R (.arr [rv, .int .i64 ck] .tight)) := (q.k.trans k2).then kB fun b hb e => by omega
   have gA3 := kB.at (k2.at q.a id) q.d1
   have gR3 := get_set_self (o := .arr [rv, .int .i64 ck] .tight) (lt_of_get g2)
   have gO3 := kB.at (k2.at q.o id) q.d3
   have k13 : Keep (fun b => b = sp.R) H1 (H2.set sp.R (.arr [rv, .int .i64 ck] .tight)) := (k2.mono fun _ _ hn => hn.elim).trans kB
   have l3 := ld gR3
   have l93 := ldw gO3 (show (oCells X cv).length = 5 from rfl)
   generalize hH3 : H2.set sp.R (.arr [rv, .int .i64 ck] .tight) = H3 at *
   by_cases hc : ck = 0
   ·subst hc
    obtain ⟨z1, z2, z3⟩ := gX H3 K3 gA3 X cv fsc
    have k14 : Keep (fun b => b = sp.R ∨ b = sp.A) H1 (H3.set sp.A (.arr (oCells X cv) .tight)) := (k13.mono fun _ _ hn => .inl hn).trans (Keep.set _ _ (.inr rfl))
    simp [CV.cells, sB, hH3, l3, l93, lE, z1, z2]
    exact ⟨⟨_, rfl, slX k14 fun b hb hn => by
     have := q.ob b hb
     rcases hn with hn | hn
     ·exact this.2.2.2 hn
     ·exact this.2.1 hn⟩, z3⟩
   ·obtain ⟨z1, z2, z3⟩ := gX H3 K3 gA3 op0 .nils rfl
    have l4 := ld ((Keep.set (S := fun b => b = sp.A) H3 (.arr (oCells op0 .nils) .tight) rfl).at gR3 (fun e => q.d1 e.symm))
    simp [CV.cells, sB, hH3, l3, hc]
    simp only [zz]
    simp [zb]
    refine WO_re_n ?_
    simp [CV.cells, lE, z1]
    refine ⟨fun c => by simp [recheckB, wanted, Env.get, cls, evOp, Opd.ev, withH, CV.eqb, l4, CV.eqb_refl], ?_⟩
    simp [z2, hc]
    exact ⟨⟨_, rfl, rp0 _⟩, z3⟩
  ·have hch : finP (X, e1) = (op0, e1) := by unfold finP; rw [if_neg he]
   rw [hch]
   obtain ⟨z1, z2, z3⟩ := gX H1 q.k q.a op0 .nils rfl
   have l4 := ld ((Keep.set (S := fun b => b = sp.A) H1 (.arr (oCells op0 .nils) .tight) rfl).at gr (fun e => q.d1 e.symm))
   simp [lR, nr, he]
   simp only [zz]
   simp [zb]
   refine WO_re_n ?_
   simp [CV.cells, lE, z1]
   refine ⟨fun c => by simp [recheckB, wanted, Env.get, cls, evOp, Opd.ev, withH, CV.eqb, l4, CV.eqb_refl], ?_⟩
   simp [z2]
   exact ⟨⟨_, rfl, rp0 _⟩, z3⟩
 ·have hl0 : 0 < l.length := List.length_pos_iff.2 h0
  have hl0' : (0 : Int) < l.length := by omega
  obtain ⟨o1, o2, o3, o4⟩ := one_run (acc := acc) (e := e1) hsl h0
  have lO := ld q.o
  simp [lR, nr, hl0, hl0', lO]
  refine WO_re_n ?_
  simp
  refine (opOne_spec lp q.rd q.r o3 o4 q.w).mono ?_
  rintro r H2 ⟨rfl, r2, k2⟩
  have q2 := q.read k2 r2 oneL_mem
  have lO2 := ld q2.o
  refine ⟨fun c => by simp [recheckB, wanted, Env.get, cls, evOp, Opd.ev, withH, CV.eqb, lO2, CV.eqb_refl], ?_⟩
  have hf3 : fillC [.bool false, .int .i64 0, .int .i64 0] [(0, 3, .agg (caL (oneC l e1)))] = some (caL (oneC l e1)) := rfl
  have hlc : (caL (oneC l e1)).length = 3 := rfl
  have htc : List.take 3 (caL (oneC l e1)) = caL (oneC l e1) := rfl
  simp [hf3, spread, cellsAt, hlc, htc]
  refine q2.push (c := oneC l e1) (by simp only; omega) rfl ?_
  intro cv' H3 g3 hsc q3
  have s3 := sto1 g3 (o := 4) (v := cv') (by show 4 < 5; decide) hsc
  have hset4 : (oCells { x with cases := acc } cv).set 4 cv' = oCells { x with cases := acc } cv' := rfl
  rw [hset4] at s3
  have fs := fits_scalar hsc
  have cs := CV.cells_scalar hsc
  simp [fs, cs, s3]
  have := oneL_len o3
  exact ⟨_, by omega, oneL l, acc ++ [oneC l e1], oneE l e1, cv', rfl, ⟨_, rfl⟩, q3, hrun.trans o1, o2, by simp; omega⟩
theorem opParse_spec (lp : LP p) {s : Wd} {h : Heap} (hs : s.length ≤ 100000) : WF p 222 [.str s] h fun r h' => (∃ c, r = .tup [.agg c, .int .i64 (parseP s).2] ∧ opC.rep h' (From h) c (parseP s).1) ∧ Keep NoneOf h h' := by
 refine WF_of (by rw [lp.pg]; exact S.pg222) (lp.no ⟨rfl, rfl⟩) ?_
 show W p S.b222 [(0, .str s)] h (retQ [.cell (some 5) 2, .t 3] (ParK h (parseP s)))
 refine W_front 7 _ _ (opParse_head lp hs) fun e h1 m1 => ?_
 refine W_front 3 _ _ (opParse_mid lp m1) fun e h2 m2 => ?_
 exact opParse_loop lp m2
end Go.Cl
