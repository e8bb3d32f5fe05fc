/-
  Texts laid together: AXJ AXK.
-/
import Derived.Test.YtlndogibbgibgaaGreatDoorMQ
import Derived.Test.YtlndogibbgibgaaGreatDoorMO
namespace Go.Cl
open Go
set_option linter.unusedSimpArgs false
set_option linter.unusedVariables false
set_option maxHeartbeats 2000000
variable {p : PP} {K : CoreW} {cells : List CV} {X : SetV} {s : CoreX} {Q : Nat → Prop} {h h' : Heap}
def zeros7 : List CV := [.int .i64 0, .int .i64 0, .int .i64 0, .int .i64 0, .int .i64 0, .int .i64 0, .int .i64 0]
def evR (t i pc er ks v : Int) : List CV := [.int .i64 t, .int .i64 4, .int .i64 i, .int .i64 pc, .int .i64 er, .int .i64 ks, .int .i64 v]
theorem evR_rep {h : Heap} {P : Nat → Prop} {t i pc er ks v : Int} : evtC.rep h P (evR t i pc er ks v) (evR t i pc er ks v) := ⟨rfl, rfl, rfl⟩
theorem resultX (lp : LP p) (c : CoreV K cells X s Q h) {i : Nat} {z : JobV} (hi : i < X.tasks.length) (hz : s.jobs[i]? = some z) {t ks v er : Int} :
  WF p 327 [.ptr K.b 0, .int .i64 t, .int .i64 i, .int .i64 ks, .int .i64 v, .int .i64 er] h fun r h' => r = .agg (evR t i z.pc er ks v) ∧ CoreU K X { s with jobs := s.jobs.set i (stepF z) } Q h h' := by
 refine WF_of (by rw [lp.pg]; exact S.pg327) (lp.no ⟨rfl, rfl⟩) ?_
 show W p S.b327 _ _ (retQ [.cell (some 7) 12] _)
 unfold S.b327
 have hca : ∀ l, (CV.agg l).cells = l := fun _ => rfl
 have kap := Keep.app NoneOf h [.arr zeros7 .tight]
 have c0 := c.on kap
 have g0 := get_new (h := h) (o := .arr zeros7 .tight)
 have hl0 : (h ++ [Obj.arr zeros7 .tight]).length = h.length + 1 := by simp
 have hzr : [CV.int .i64 0, .int .i64 0, .int .i64 0, .int .i64 0, .int .i64 0, .int .i64 0, .int .i64 0] = zeros7 := rfl
 have lC := ld c0.g
 obtain ⟨fv, hv, e, rz, s1, s2, hix, lj, w10⟩ := c0.rowAt hi hz
 have jf := jobC.flat rz
 have sn := store_new2 (h := h) (o := .arr zeros7 .tight) (row := jobCells z fv hv) (z := [.bool false, .nils, .int .i64 0, .int .i64 0, .int .i64 0, .int .i64 0, .int .i64 0, .int .i64 0, .bool false, .nils]) rfl jf
 have hK1 := Keep.app NoneOf h [.arr zeros7 .tight, .arr (jobCells z fv hv) .tight]
 have g12 : (h ++ [Obj.arr zeros7 .tight, .arr (jobCells z fv hv) .tight])[h.length]? = some (.arr zeros7 .tight) := by simp
 have g13 : (h ++ [Obj.arr zeros7 .tight, .arr (jobCells z fv hv) .tight])[h.length + 1]? = some (.arr (jobCells z fv hv) .tight) := by simp
 have hap : h ++ [Obj.arr zeros7 .tight] ++ [.arr (jobCells z fv hv) .tight] = h ++ [Obj.arr zeros7 .tight, .arr (jobCells z fv hv) .tight] := by simp
 have kap2 := Keep.app NoneOf (h ++ [.arr zeros7 .tight]) [.arr (jobCells z fv hv) .tight]
 rw [hap] at kap2
 have c2 := c0.on kap2
 have jl : (jobCells z fv hv).length = 10 := rfl
 have rz2 := jobC.on rz kap2
 simp
 rw [hzr]
 simp [lC, hix, hi, w10, hca, jl, sn]
 have hH2l : (h ++ [Obj.arr zeros7 .tight, .arr (jobCells z fv hv) .tight]).length = h.length + 2 := by simp
 generalize h ++ [Obj.arr zeros7 .tight, .arr (jobCells z fv hv) .tight] = H2 at *
 have lC2 := ld c2.g
 have w13 := ldw g13 (n := 10) jl
 have l132 : loadAt H2 (h.length + 1) 2 none = some (.int .i64 z.pc) := by rw [ld g13]; rfl
 simp [lC2, w13]
 refine WO_re_n ?_
 simp
 refine (stepY (by rw [lp.pg]; exact S.pg41) (lp.no ⟨rfl, rfl⟩) rz2).mono ?_
 rintro r h3 ⟨k3, d, rfl, rd⟩
 have c3 := c2.on k3
 have lC3 := ld c3.g
 refine ⟨fun c' => by simp [recheckB, wanted, Env.get, cls, evOp, Opd.ev, withH, CV.eqb, CV.eqb_refl, CV.eqbL_refl, lC3, i64], ?_⟩
 have dl : d.length = 10 := jobC.len rd
 have sj := c3.stJob hi rd
 have c4 := c3.setJob hi rd
 have hown := c.own_lt
 have hjb := hown K.jb (.inr (.inl rfl))
 have k4 : Keep (fun y => y = K.jb) h3 (h3.set K.jb (.arr (splice cells (i * 10) d) .tight)) := Keep.set _ _ rfl
 have g133 := k4.at (k3.at g13 id) (by omega)
 have g123 := k4.at (k3.at g12 id) (by omega)
 simp [hix, hi, dl, hca, sj]
 generalize h3.set K.jb (.arr (splice cells (i * 10) d) .tight) = H4 at *
 have l4 : loadAt H4 (h.length + 1) 2 none = some (.int .i64 z.pc) := by rw [ld g133]; rfl
 have fb : fillC zeros7 [(0, 1, .int .i64 t), (1, 1, .int .i64 4), (2, 1, .int .i64 i), (3, 1, .int .i64 z.pc), (4, 1, .int .i64 er), (5, 1, .int .i64 ks), (6, 1, .int .i64 v)] = some (evR t i z.pc er ks v) := rfl
 have el : (evR t i z.pc er ks v).length = 7 := rfl
 have s5 := sto g123 (vs := evR t i z.pc er ks v) rfl rfl
 have w5 := ldw (get_set_self (o := .arr (evR t i z.pc er ks v) .tight) (lt_of_get g123)) (n := 7) rfl
 simp [l4, fb, hca, el, s5, w5]
 have k5 : Keep (fun y => y = h.length) H4 (H4.set h.length (.arr (evR t i z.pc er ks v) .tight)) := Keep.set _ _ rfl
 refine ⟨(((hK1.trans k3).mono fun _ _ => False.elim).then k4 fun y _ e => .inr (.inl e)).then k5 fun y hy e => by omega, Q, _, c4.keep k5 fun y e => ⟨fun o => by have := hown y o; omega, fun q => by have := (c.hQ y q).1; omega⟩, fun y => .inl⟩
theorem takeL (lp : LP p) {h : Heap} {b : Nat} {task sq : Int} (g : h[b]? = some (.arr [.int .i64 (-1), .nils] .tight)) (h0 : 0 ≤ task) :
  WF p 342 [.ptr b 0, .int .i64 task, .int .i64 sq] h fun r h' => r = .tup [.bool true, .int .i64 0] ∧ h' = (h ++ [Obj.arr [.int .i64 task] .tight]).set b (.arr [.int .i64 task, .nils] .tight) := by
 refine WF_of (by rw [lp.pg]; exact S.pg342) (lp.no ⟨rfl, rfl⟩) ?_
 show W p S.b342 _ _ (retQ [.t 6, .t 7] _)
 unfold S.b342
 have l0 := ld g
 have hn : ¬ task < 0 := by omega
 have hne : ¬ (-1 : Int) = task := by omega
 have g1 := get_app (g := [.arr [.int .i64 task] .tight]) g
 have l1 := ld g1
 have s1 := sto1 g1 (o := 0) (v := .int .i64 task) (by simp) rfl
 have hs : ([.int .i64 (-1), .nils] : List CV).set 0 (.int .i64 task) = [.int .i64 task, .nils] := rfl
 rw [hs] at s1
 simp [hn, l0, hne]
 refine WF_of (by rw [lp.pg]; exact S.pg363) (lp.no ⟨rfl, rfl⟩) ?_
 show W p S.b363 _ _ (retQ [.t 4] _)
 unfold S.b363
 simp
 refine WF_of (by rw [lp.pg]; exact S.pg384) (lp.no ⟨rfl, rfl⟩) ?_
 show W p S.b384 _ _ (retQ [.t 4] _)
 unfold S.b384
 simp
 refine WF_of (by rw [lp.pg]; exact S.pg408) (lp.no ⟨rfl, rfl⟩) ?_
 show W p S.b408 _ _ (retQ [.t 4] _)
 unfold S.b408
 simp
 refine W_loop (fun m e h' => m = 0 ∧ e = [(0, .nils), (1, .fn 383 [.ptr h.length 0]), (7, .int .i64 0), (8, .int .i64 0)] ∧ h' = h ++ [.arr [.int .i64 task] .tight]) ?_ 0 ⟨rfl, rfl, rfl⟩
 rintro m e h2 ⟨rfl, rfl, rfl⟩
 simp [l1, s1]
theorem giveL (lp : LP p) {h : Heap} {b : Nat} {task : Int} {pv : CV} (g : h[b]? = some (.arr [.int .i64 task, .nils] .tight)) (h0 : 0 ≤ task) :
  WF p 344 [.ptr b 0, .int .i64 task, pv] h fun r h' => r = .tup [.int .i64 (-1), .int .i64 0] ∧ h' = h.set b (.arr [.int .i64 (-1), .nils] .tight) := by
 refine WF_of (by rw [lp.pg]; exact S.pg344) (lp.no ⟨rfl, rfl⟩) ?_
 show W p S.b344 _ _ (retQ [.t 6, .t 7] _)
 unfold S.b344
 have l0 := ld g
 have hn : ¬ task < 0 := by omega
 have s1 := sto1 g (o := 0) (v := .int .i64 (-1)) (by simp) rfl
 have hs : ([.int .i64 task, .nils] : List CV).set 0 (.int .i64 (-1)) = [.int .i64 (-1), .nils] := rfl
 rw [hs] at s1
 have g1 := get_set_self (o := .arr [.int .i64 (-1), .nils] .tight) (lt_of_get g)
 have l1 := ld g1
 simp [hn, l0, s1]
 simp [l1]
 refine WF_of (by rw [lp.pg]; exact S.pg364) (lp.no ⟨rfl, rfl⟩) ?_
 show W p S.b364 _ _ (retQ [.t 4] _)
 unfold S.b364
 simp
 refine W_loop (fun m e h' => m = 0 ∧ e = [(0, .nils), (1, pv), (5, .int .i64 (-1)), (9, .nils), (10, .int .i64 0), (11, .int .i64 0)] ∧ h' = h.set b (.arr [.int .i64 (-1), .nils] .tight)) ?_ 0 ⟨rfl, rfl, rfl⟩
 rintro m e h2 ⟨rfl, rfl, rfl⟩
 simp [l1]
theorem CoreV.putJob (c : CoreV K cells X s Q h) {h0 : Heap} {i : Nat} (hi : i < X.tasks.length) {d : List CV} {z : JobV} (rd : jobC.rep h (Or Q h0) d z) (hN : ∀ y, K.own y → y < h0.length) :
  storeAt h K.jb (i * 10) d = some (h.set K.jb (.arr (splice cells (i * 10) d) .tight)) ∧
  CoreV K (splice cells (i * 10) d) X { s with jobs := s.jobs.set i z } (fun y => Q y ∨ (h0.length ≤ y ∧ y < h.length)) (h.set K.jb (.arr (splice cells (i * 10) d) .tight)) := by
 have cg := c.grow (N := h0.length) hN
 have rd' : jobC.rep h (fun y => Q y ∨ (h0.length ≤ y ∧ y < h.length)) d z := jobC.mono (jobC.lt rd) fun y hy => hy.1.imp id fun e => ⟨e, hy.2⟩
 exact ⟨cg.stJob hi rd', cg.setJob hi rd'⟩
theorem giveX (lp : LP p) (c : CoreV K cells X s Q h) {i l : Nat} {z : JobV} {t : Int} {pv : CV} (hi : i < X.tasks.length) (hz : s.jobs[i]? = some z) (hl : l < K.lb.length) (ho : s.own[l]? = some (i : Int)) (hb : z.held.length ≤ big) :
  WF p 328 [.ptr K.b 0, .int .i64 t, .int .i64 i, .int .i64 l, pv] h fun r h' => r = .nils ∧ CoreU K X { s with jobs := s.jobs.set i (giveF z l), own := s.own.set l (-1) } Q h h' := by
 refine WF_of (by rw [lp.pg]; exact S.pg328) (lp.no ⟨rfl, rfl⟩) ?_
 show W p S.b328 _ _ (retQ [.t 10] _)
 unfold S.b328
 have hca : ∀ l, (CV.agg l).cells = l := fun _ => rfl
 have lC := ld c.g
 obtain ⟨fv, hv, e, rz, s1, s2, hix, lj, w10⟩ := c.rowAt hi hz
 have hown := c.own_lt
 simp [lC, hix, hi, w10]
 refine WO_re_n ?_
 simp
 refine (giveY (k := (l : Int)) (by rw [lp.pg]; exact S.pg45) (lp.no ⟨rfl, rfl⟩) rz hb).mono ?_
 rintro r h1 ⟨k1, d, rfl, rd⟩
 have c1 := c.on k1
 have lC1 := ld c1.g
 refine ⟨fun c' => by simp [recheckB, wanted, Env.get, cls, evOp, Opd.ev, withH, CV.eqb, CV.eqb_refl, CV.eqbL_refl, lC1, i64], ?_⟩
 have dl : d.length = 10 := jobC.len rd
 obtain ⟨sj, c2⟩ := c1.putJob hi rd hown
 have k2 : Keep (fun y => y = K.jb) h1 (h1.set K.jb (.arr (splice cells (i * 10) d) .tight)) := Keep.set _ _ rfl
 simp [hix, hi, dl, hca, sj]
 generalize h1.set K.jb (.arr (splice cells (i * 10) d) .tight) = H2 at *
 have lC2 := ld c2.g
 obtain ⟨b, o, b0, o0, z1, z2, z3, z4, z5⟩ := c2.lockAt hl
 have ho2 : o = (i : Int) := by
  have : s.own[l]? = some o := z2
  rw [ho] at this
  exact (Option.some.inj this).symm
 subst ho2
 have c3 := c2.setLock z1 (-1)
 simp [lC2, z3, z4]
 refine (giveL lp z5 (by omega)).mono ?_
 rintro r H3 ⟨rfl, rfl⟩
 simp
 have k3 : Keep (fun y => y = b) H2 (H2.set b (.arr [.int .i64 (-1), .nils] .tight)) := Keep.set _ _ rfl
 have hbl := List.mem_of_getElem? z1
 have k1l := k1.len
 refine ⟨((k1.mono fun _ _ => False.elim).then k2 fun y _ e => .inr (.inl e)).then k3 fun y _ e => .inr (.inr (.inr (.inr (.inr (e ▸ hbl))))), _, _, c3, fun y hy => hy.imp id fun q => q.1⟩
theorem lockX (lp : LP p) (c : CoreV K cells X s Q h) {i l : Nat} {z : JobV} {t : Int} {d : List CV} {o : OpV} {P : Nat → Prop} (hi : i < X.tasks.length) (hz : s.jobs[i]? = some z) (hl : l < K.lb.length) (ho : s.own[l]? = some (-1)) (hb : z.held.length ≤ big) (ro : opC.rep h P d o) (hn : o.n = l) :
  WF p 326 [.ptr K.b 0, .int .i64 t, .int .i64 i, .agg d] h fun r h' => CoreU K X { s with jobs := s.jobs.set i (stepF (takeF z l)), own := s.own.set l i } Q h h' ∧ Sl evtC h' (From h) r [evR t i z.pc 0 0 0] := by
 refine WF_of (by rw [lp.pg]; exact S.pg326) (lp.no ⟨rfl, rfl⟩) ?_
 show W p S.b326 _ _ (retQ [.t 8] _)
 unfold S.b326
 have hca : ∀ l, (CV.agg l).cells = l := fun _ => rfl
 obtain ⟨cv, rfl, _⟩ := ro
 rw [hn]
 have kap := Keep.app NoneOf h [.arr [.int .i64 o.kind, .int .i64 l, .int .i64 o.v, .int .i64 o.wait, cv] .tight]
 have g7 := get_new (h := h) (o := .arr [.int .i64 o.kind, .int .i64 l, .int .i64 o.v, .int .i64 o.wait, cv] .tight)
 have hl1 : (h ++ [Obj.arr [.int .i64 o.kind, .int .i64 l, .int .i64 o.v, .int .i64 o.wait, cv] .tight]).length = h.length + 1 := by simp
 have c1 := c.on kap
 simp [hca]
 generalize h ++ [Obj.arr [.int .i64 o.kind, .int .i64 l, .int .i64 o.v, .int .i64 o.wait, cv] .tight] = H1 at *
 have lC1 := ld c1.g
 have l71 : loadAt H1 h.length 1 none = some (.int .i64 l) := by rw [ld g7]; rfl
 obtain ⟨b, o', b0, o0, z1, z2, z3, z4, z5⟩ := c1.lockAt hl
 have ho2 : o' = -1 := by rw [ho] at z2; exact (Option.some.inj z2).symm
 subst ho2
 have hbl := List.mem_of_getElem? z1
 have hown := c.own_lt
 simp [lC1, l71, z3, z4]
 refine (takeL lp (task := (i : Int)) z5 (by omega)).mono ?_
 rintro r H2 ⟨rfl, rfl⟩
 have kap2 := Keep.app NoneOf H1 [.arr [.int .i64 (i : Int)] .tight]
 have c2 := (c1.on kap2).setLock z1 (i : Int)
 have k2 : Keep (fun y => y = b) (H1 ++ [.arr [.int .i64 (i : Int)] .tight]) ((H1 ++ [Obj.arr [.int .i64 (i : Int)] .tight]).set b (.arr [.int .i64 (i : Int), .nils] .tight)) := Keep.set _ _ rfl
 have hbb := hown b (.inr (.inr (.inr (.inr (.inr hbl)))))
 have g72 := k2.at (kap2.at g7 id) (by omega)
 have hl2 : ((H1 ++ [Obj.arr [.int .i64 (i : Int)] .tight]).set b (.arr [.int .i64 (i : Int), .nils] .tight)).length = h.length + 2 := by simp [hl1]
 have K2 : Keep K.own h ((H1 ++ [Obj.arr [.int .i64 (i : Int)] .tight]).set b (.arr [.int .i64 (i : Int), .nils] .tight)) := ((kap.trans kap2).mono fun _ _ => False.elim).then k2 fun y _ e => .inr (.inr (.inr (.inr (.inr (e ▸ hbl)))))
 simp
 generalize (H1 ++ [Obj.arr [.int .i64 (i : Int)] .tight]).set b (.arr [.int .i64 (i : Int), .nils] .tight) = H3 at *
 have lC3 := ld c2.g
 have l73 : loadAt H3 h.length 1 none = some (.int .i64 l) := by rw [ld g72]; rfl
 obtain ⟨fv, hv, e, rz, s1, s2, hix, lj, w10⟩ := c2.rowAt hi hz
 simp [lC3, hix, hi, w10, l73]
 refine WO_re_n ?_
 simp
 refine (takeY (k := (l : Int)) (by rw [lp.pg]; exact S.pg43) (lp.no ⟨rfl, rfl⟩) (by rw [lp.pg]; exact S.pg55) (lp.no ⟨rfl, rfl⟩) rz hb).mono ?_
 rintro r h4 ⟨k4, d, rfl, rd⟩
 have c4 := c2.on k4
 have lC4 := ld c4.g
 refine ⟨fun c' => by simp [recheckB, wanted, Env.get, cls, evOp, Opd.ev, withH, CV.eqb, CV.eqb_refl, CV.eqbL_refl, lC4, i64], ?_⟩
 have dl : d.length = 10 := jobC.len rd
 obtain ⟨sj, c5⟩ := c4.putJob hi rd fun y hy => by have := hown y hy; omega
 have k5 : Keep (fun y => y = K.jb) h4 (h4.set K.jb (.arr (splice cells (i * 10) d) .tight)) := Keep.set _ _ rfl
 simp [hix, hi, dl, hca, sj]
 have k4l := k4.len
 have k5l : (h4.set K.jb (.arr (splice cells (i * 10) d) .tight)).length = h4.length := by simp
 generalize h4.set K.jb (.arr (splice cells (i * 10) d) .tight) = H5 at *
 have hz5 : (s.jobs.set i (takeF z l))[i]? = some (takeF z l) := by rw [List.getElem?_set_self (by have := (List.getElem?_eq_some_iff.1 hz).1; omega)]
 refine (resultX lp c5 hi hz5).mono ?_
 rintro r h6 ⟨rfl, u6⟩
 have hbs : fillC [.int .i64 0, .int .i64 0, .int .i64 0, .int .i64 0, .int .i64 0, .int .i64 0, .int .i64 0] [(0, 7, .agg (evR t i (takeF z l).pc 0 0 0))] = some (evR t i (takeF z l).pc 0 0 0) := rfl
 simp [hbs]
 have hpc : (takeF z l).pc = z.pc := rfl
 rw [hpc]
 obtain ⟨k6, Q6, cs6, c6, q6⟩ := u6
 simp only [List.set_set] at c6
 have k6l := k6.len
 refine ⟨CoreU.on ⟨((K2.trans (k4.mono fun _ _ => False.elim)).then k5 fun y _ e => .inr (.inl e)).trans k6, Q6, cs6, c6, fun y hy => ?_⟩ (Keep.app _ _ _), ?_⟩
 ·rcases q6 y hy with (q | q) | q
  ·exact .inl q
  ·exact .inr (by omega)
  ·exact .inr (by omega)
 ·exact (evtC_one rfl rfl).mono fun y hy => by simp only [From] at hy ⊢; omega
end Go.Cl
