/-
  Texts laid together: AXG.
-/
import Derived.Test.YtlndogibbgibgaaGreatDoorMP1
namespace Go.Cl
open Go
set_option linter.unusedSimpArgs false
set_option linter.unusedVariables false
set_option maxHeartbeats 1000000
variable {p : PP} {K : CoreW} {cells : List CV} {X : SetV} {s : CoreX} {Q : Nat → Prop} {h h' : Heap}
theorem knownX (lp : LP p) (c : CoreV K cells X s Q h) (i : Int) : WF p 323 [.ptr K.b 0, .int .i64 i] h fun r h' => r = .bool (decide (0 ≤ i ∧ i < X.tasks.length)) ∧ h' = h := by
 refine WF_of (by rw [lp.pg]; exact S.pg323) (lp.no ⟨rfl, rfl⟩) ?_
 show W p S.b323 _ _ (retQ [.t 4] _)
 unfold S.b323
 have lC := ld c.g
 by_cases h0 : 0 ≤ i
 ·by_cases h1 : i < X.tasks.length
  ·simp [lC, h0, h1]
  ·simp [lC, h0, h1]
 ·simp [lC, h0]
theorem nowX (lp : LP p) (c : CoreV K cells X s Q h) : WF p 444 [.ptr K.b 0] h fun r h' => r = .int .i64 s.now ∧ h' = h := by
 refine WF_of (by rw [lp.pg]; exact S.pg444) (lp.no ⟨rfl, rfl⟩) ?_
 show W p S.b444 _ _ (retQ [.t 2] _)
 unfold S.b444
 have lC := ld c.g
 simp [lC]
theorem nextX (lp : LP p) (c : CoreV K cells X s Q h) (hs : IntKind.i64.wrap (s.seq + 1) = s.seq + 1) : WF p 324 [.ptr K.b 0] h fun r h' => r = .int .i64 (s.seq + 1) ∧ Keep (fun y => y = K.b) h h' ∧ h'.length = h.length ∧ CoreV K cells X { s with seq := s.seq + 1 } Q h' := by
 refine WF_of (by rw [lp.pg]; exact S.pg324) (lp.no ⟨rfl, rfl⟩) ?_
 show W p S.b324 _ _ (retQ [.t 2] _)
 unfold S.b324
 have lC := ld c.g
 have s1 := sto1 c.g (o := 11) (v := .int .i64 (s.seq + 1)) (by simp) rfl
 simp at s1
 have c1 := c.setNow s.now (s.seq + 1)
 have l1 := ld c1.g
 simp [lC, hs, s1, l1]
 exact ⟨Keep.set _ _ rfl, c1⟩
theorem goX (lp : LP p) (c : CoreV K cells X s Q h) (hs : IntKind.i64.wrap (s.now + 1) = s.now + 1) : WF p 316 [.ptr K.b 0] h fun r h' => CoreU K X { s with now := s.now + 1 } Q h h' := by
 refine WF_of (by rw [lp.pg]; exact S.pg316) (lp.no ⟨rfl, rfl⟩) ?_
 show W p S.b316 _ _ (retQ [] _)
 unfold S.b316
 have lC := ld c.g
 have s1 := sto1 c.g (o := 10) (v := .int .i64 (s.now + 1)) (by simp) rfl
 simp at s1
 have c1 := c.setNow (s.now + 1) s.seq
 simp [lC, hs, s1]
 exact ⟨Keep.set _ _ (.inl rfl), Q, cells, c1, fun y => .inl⟩
theorem expireX (lp : LP p) (c : CoreV K cells X s Q h) : WF p 449 [.ptr K.b 0] h fun r h' => r = .nils ∧ h' = h := by
 refine WF_of (by rw [lp.pg]; exact S.pg449) (lp.no ⟨rfl, rfl⟩) ?_
 show W p S.b449 _ _ (retQ [.t 2] _)
 unfold S.b449
 have lC := ld c.g
 have lT := ld c.tg
 simp [lC]
 refine WF_of (by rw [lp.pg]; exact S.pg454) (lp.no ⟨rfl, rfl⟩) ?_
 show W p S.b454 _ _ (retQ [.t 2] _)
 unfold S.b454
 simp [lT]
 refine W_loop (fun m e h' => m = 0 ∧ e = [(0, .ptr K.tb 0), (3, .nils), (9, .bool false)] ∧ h' = h) ?_ 0 ⟨rfl, rfl, rfl⟩
 rintro m e h' ⟨rfl, rfl, rfl⟩
 simp [lT]
 refine W_loop (fun m e h2 => m = 0 ∧ e = [(0, .ptr K.b 0), (3, .nils), (10, .nils), (11, .int .i64 0), (12, .int .i64 0)] ∧ h2 = h') ?_ 0 ⟨rfl, rfl, rfl⟩
 rintro m e h2 ⟨rfl, rfl, rfl⟩
 simp
def liveX (s : CoreX) (i : Int) : Bool := if i < 0 then false else match s.jobs[i.toNat]? with | some x => x.live | none => false
def askErrX (X : SetV) (s : CoreX) (i : Int) : Int := askE (X.tasks.map (·.per)) s.f s.gn i s.now (liveX s i)
def askSX (X : SetV) (s : CoreX) (i : Nat) : CoreX :=
 match X.tasks[i]? with
 | some t => ⟨s.jobs.set i (newF t.prog t.bud s.now (s.seq + 1)), s.own, updI s.f i s.now, s.now, s.now, s.seq + 1⟩
 | none => s
theorem liveX_known (c : CoreV K cells X s Q h) (i : Int) : liveX s i = (decide (0 ≤ i ∧ i < X.tasks.length) && liveX s i) := by
 by_cases hi : 0 ≤ i ∧ i < X.tasks.length
 ·simp [hi]
 ·simp only [hi, decide_false, Bool.false_and]
  unfold liveX
  split
  ·rfl
  ·rw [List.getElem?_eq_none (by have := c.jl; omega)]
theorem askX_no (lp : LP p) (c : CoreV K cells X s Q h) (i : Int) (he : askErrX X s i ≠ 0) : WF p 306 [.ptr K.b 0, .int .i64 i] h fun r h' => r = .agg (evt s.now 2 i (askErrX X s i)) ∧ CoreU K X s Q h h' := by
 refine WF_of (by rw [lp.pg]; exact S.pg306) (lp.no ⟨rfl, rfl⟩) ?_
 show W p S.b306 _ _ (retQ [.cell (some 7) 4] _)
 unfold S.b306
 have kap := Keep.app NoneOf h [.arr [.int .i64 0, .int .i64 0, .int .i64 0, .int .i64 0, .int .i64 0, .int .i64 0, .int .i64 0] .tight]
 have c0 := c.on kap
 have g0 := get_new (h := h) (o := .arr [.int .i64 0, .int .i64 0, .int .i64 0, .int .i64 0, .int .i64 0, .int .i64 0, .int .i64 0] .tight)
 have hl0 : (h ++ [Obj.arr [.int .i64 0, .int .i64 0, .int .i64 0, .int .i64 0, .int .i64 0, .int .i64 0, .int .i64 0] .tight]).length = h.length + 1 := by simp
 simp
 generalize h ++ [Obj.arr [.int .i64 0, .int .i64 0, .int .i64 0, .int .i64 0, .int .i64 0, .int .i64 0, .int .i64 0] .tight] = H0 at *
 refine (knownX lp c0 i).mono ?_
 rintro r h1 ⟨rfl, rfl⟩
 have lC := ld c0.g
 have key : WF p 6 [.ptr K.gb 0, .int .i64 i, .int .i64 s.now, .bool (liveX s i)] h1 fun r h2 => r = .int .i64 (askErrX X s i) ∧ h2 = h1 := by
  refine (ask_spec (by rw [lp.pg]; exact S.pg6) (lp.no ⟨rfl, rfl⟩) c0.gd i s.now (liveX s i)).mono ?_
  rintro r h2 ⟨rfl, q, _⟩
  rw [if_neg (show ¬ askE (X.tasks.map (·.per)) s.f s.gn i s.now (liveX s i) = 0 from he)] at q
  exact ⟨rfl, q⟩
 have s1 := sto g0 (vs := evt s.now 2 i (askErrX X s i)) rfl rfl
 have K1 : Keep NoneOf h (h1.set h.length (.arr (evt s.now 2 i (askErrX X s i)) .tight)) := kap.then (Keep.set (S := fun y => y = h.length) _ _ rfl) fun y hy e => by omega
 have w1 := ldw (get_set_self (o := .arr (evt s.now 2 i (askErrX X s i)) .tight) (lt_of_get g0)) (n := 7) rfl
 have fin : WO p [] [] [] (h1.set h.length (.arr (evt s.now 2 i (askErrX X s i)) .tight)) fun _ h' => CoreU K X s Q h h' := by
  rw [WO_nil]; exact CoreU.same c K1
 rw [WO_nil] at fin
 by_cases hi : 0 ≤ i ∧ i < X.tasks.length
 ·obtain ⟨n, rfl⟩ : ∃ n : Nat, i = n := ⟨i.toNat, by omega⟩
  have hn : n < X.tasks.length := by omega
  obtain ⟨x, fv, hv, hx, e, s1', s2', hix, hc, hb⟩ := c0.row hn
  have hlv : liveX s n = x.live := by simp [liveX, hx]
  have hc0 := hc 0 (by omega)
  simp [jobCells] at hc0
  have lJ := ld c0.jg
  rw [hlv] at key
  simp [hi, lC, hix, hn, lJ, hc0]
  refine key.mono ?_
  rintro r h2 ⟨rfl, rfl⟩
  simp [he, lC]
  simp [evt_fill, evt_len, s1, w1]
  exact fin
 ·have hlv : liveX s i = false := by rw [liveX_known c i]; simp [hi]
  rw [hlv] at key
  simp [hi, lC]
  refine key.mono ?_
  rintro r h2 ⟨rfl, rfl⟩
  simp [he, lC]
  simp [evt_fill, evt_len, s1, w1]
  exact fin
theorem askX_yes (lp : LP p) (c : CoreV K cells X s Q h) {i : Nat} (hi : i < X.tasks.length) (he : askErrX X s i = 0) (hs : IntKind.i64.wrap (s.seq + 1) = s.seq + 1) (hb : X.tasks[i].prog.length ≤ big) (hk : ∀ o ∈ X.tasks[i].prog, o.kind ≠ 8) :
  WF p 306 [.ptr K.b 0, .int .i64 i] h fun r h' => r = .agg (evt s.now 1 i 0) ∧ CoreU K X (askSX X s i) Q h h' := by
 refine WF_of (by rw [lp.pg]; exact S.pg306) (lp.no ⟨rfl, rfl⟩) ?_
 show W p S.b306 _ _ (retQ [.cell (some 7) 4] _)
 unfold S.b306
 have kap := Keep.app NoneOf h [.arr [.int .i64 0, .int .i64 0, .int .i64 0, .int .i64 0, .int .i64 0, .int .i64 0, .int .i64 0] .tight]
 have c0 := c.on kap
 have g0 := get_new (h := h) (o := .arr [.int .i64 0, .int .i64 0, .int .i64 0, .int .i64 0, .int .i64 0, .int .i64 0, .int .i64 0] .tight)
 have hl0 : (h ++ [Obj.arr [.int .i64 0, .int .i64 0, .int .i64 0, .int .i64 0, .int .i64 0, .int .i64 0, .int .i64 0] .tight]).length = h.length + 1 := by simp
 simp
 generalize h ++ [Obj.arr [.int .i64 0, .int .i64 0, .int .i64 0, .int .i64 0, .int .i64 0, .int .i64 0, .int .i64 0] .tight] = H0 at *
 refine (knownX lp c0 i).mono ?_
 rintro r h1 ⟨rfl, rfl⟩
 have lC := ld c0.g
 obtain ⟨x, fv, hv, hx, e, s1', s2', hix, hc, hbd⟩ := c0.row hi
 have hlv : liveX s i = x.live := by simp [liveX, hx]
 have hc0 := hc 0 (by omega)
 simp [jobCells] at hc0
 have lJ := ld c0.jg
 simp [hi, lC, hix, lJ, hc0]
 have hin : 0 ≤ (i : Int) ∧ (i : Int) < X.tasks.length := by omega
 refine (ask_spec (by rw [lp.pg]; exact S.pg6) (lp.no ⟨rfl, rfl⟩) c0.gd i s.now x.live).mono ?_
 rintro r h2 ⟨rfl, q, k2, hl2⟩
 have he' : askE (X.tasks.map (·.per)) s.f s.gn i s.now x.live = 0 := by rw [← hlv]; exact he
 rw [if_pos he'] at q
 have c2 := c0.setGuard k2 q
 have hown := c.own_lt
 have g2 := k2.at g0 fun e => by
  rcases e with e | e
  ·have := hown K.gb (.inr (.inr (.inl rfl))); omega
  ·have := hown K.mb (.inr (.inr (.inr (.inl rfl)))); omega
 have lC2 := ld c2.g
 obtain ⟨b0, o0, pv, x1, x2, _, sp⟩ := taskRow c2.ts hi
 have sn := store_new (h := h2) (row := tkL X.tasks[i] pv) (z := [.str [], .int .i64 0, .int .i64 0, .int .i64 0, .nils]) rfl (tkL_flat sp.scalar)
 have tkl : (tkL X.tasks[i] pv).length = 5 := rfl
 have t4 : (tkL X.tasks[i] pv)[4]? = some pv := rfl
 have t3 : (tkL X.tasks[i] pv)[3]? = some (.int .i64 X.tasks[i].bud) := rfl
 have kap2 := Keep.app NoneOf h2 [.arr (tkL X.tasks[i] pv) .tight]
 have g7 := get_new (h := h2) (o := .arr (tkL X.tasks[i] pv) .tight)
 have c3 := c2.on kap2
 have g3 := kap2.at g2 id
 have hl3 : (h2 ++ [Obj.arr (tkL X.tasks[i] pv) .tight]).length = h2.length + 1 := by simp
 have sp3 := sp.on kap2
 simp [he', lC2, x1, x2, sn, tkl]
 generalize h2 ++ [Obj.arr (tkL X.tasks[i] pv) .tight] = H3 at *
 have lC3 := ld c3.g
 have lT3 := ld g7
 simp [lC3, lT3, t4, t3]
 refine WO_re_n ?_
 simp
 refine (nextX lp c3 hs).mono ?_
 rintro r h4 ⟨rfl, k4, hl4, c4⟩
 have lC4 := ld c4.g
 have hKb := hown K.b (.inl rfl)
 have g74 := k4.at g7 (by omega)
 have lT4 := ld g74
 have g4 := k4.at g3 (by omega)
 refine ⟨fun c' => by simp [recheckB, wanted, Env.get, cls, evOp, Opd.ev, withH, CV.eqb, CV.eqb_refl, CV.eqbL_refl, lC4, lT4, t3, t4, i64], ?_⟩
 refine WO_re_n ?_
 simp
 have sp4 := sp3.keep k4 fun y hy e => (c3.hQ y hy).2 (.inl e)
 refine (jobNew_spec lp.pg (lp.no ⟨rfl, rfl⟩) (lp.no ⟨rfl, rfl⟩) sp4 hb hk).mono ?_
 rintro r h5 ⟨k5, d, rfl, rd⟩
 have c5 := c4.on k5
 have lC5 := ld c5.g
 have g5 := k5.at g4 id
 refine ⟨fun c' => by simp [recheckB, wanted, Env.get, cls, evOp, Opd.ev, withH, CV.eqb, CV.eqb_refl, CV.eqbL_refl, lC5, i64], ?_⟩
 have kl5 := k5.len
 have c6 := c5.grow (N := h4.length) fun y hy => by have := hown y hy; omega
 have rd6 : jobC.rep h5 (fun y => Q y ∨ (h4.length ≤ y ∧ y < h5.length)) d (newF X.tasks[i].prog X.tasks[i].bud s.now (s.seq + 1)) := jobC.mono (jobC.lt rd) fun y hy => hy.1.imp id fun e => ⟨e, hy.2⟩
 have dl := jobC.len rd
 have dl : d.length = 10 := dl
 have df := jobC.flat rd
 have c7 := c6.setJob hi rd6
 have sj : storeAt h5 K.jb (i * 10) d = some (h5.set K.jb (.arr (splice cells (i * 10) d) .tight)) := by
  rw [stt c5.jg, if_pos ⟨by rw [dl]; exact hbd, df⟩]
 have g7' := (Keep.set (S := fun y => y = K.jb) h5 (.arr (splice cells (i * 10) d) .tight) rfl).at g5 (by have := hown K.jb (.inr (.inl rfl)); omega)
 have hca : ∀ l, (CV.agg l).cells = l := fun _ => rfl
 simp [hix, hi, dl, hca, sj]
 have K7 : Keep K.own h (h5.set K.jb (.arr (splice cells (i * 10) d) .tight)) := by
  have a1 : Keep K.own h h2 := (kap.mono fun _ _ => False.elim).then k2 fun y _ e => .inr (.inr (e.imp id .inl))
  exact (((a1.then kap2 fun y _ => False.elim).then k4 fun y _ e => .inl e).then k5 fun y _ => False.elim).then (Keep.set (S := fun y => y = K.jb) _ _ rfl) fun y _ e => .inr (.inl e)
 generalize h5.set K.jb (.arr (splice cells (i * 10) d) .tight) = H7 at *
 have lC7 := ld c7.g
 have s1 := sto g7' (vs := evt s.now 1 i 0) rfl rfl
 have w1 := ldw (get_set_self (o := .arr (evt s.now 1 i 0) .tight) (lt_of_get g7')) (n := 7) rfl
 simp [lC7, evt_fill3, evt_len, s1, w1, hca]
 have k8 : Keep (fun y => y = h.length) H7 (H7.set h.length (.arr (evt s.now 1 i 0) .tight)) := Keep.set _ _ rfl
 have hS : askSX X s i = ⟨s.jobs.set i (newF X.tasks[i].prog X.tasks[i].bud s.now (s.seq + 1)), s.own, updI s.f i s.now, s.now, s.now, s.seq + 1⟩ := by simp [askSX, List.getElem?_eq_getElem hi]
 rw [hS]
 refine ⟨K7.then k8 fun y hy e => by omega, _, _, c7.keep k8 fun y e => ⟨fun o => by have := hown y o; omega, fun q => ?_⟩, fun y hy => hy.imp id fun e => by omega⟩
 rcases q with q | q
 ·have := (c.hQ y q).1; omega
 ·omega
end Go.Cl
