/-
  Texts laid together: AXE AJobY.
-/
import Derived.Test.YtlndogibbgibgaaGreatDoorMN
import Derived.Test.YtlndogibbgibgaaGreatDoorMJ
import Derived.Test.YtlndogibbgibgaaGreatDoorME
namespace Go.Cl
open Go
set_option linter.unusedSimpArgs false
set_option linter.unusedVariables false
set_option maxHeartbeats 2000000
variable {p : PP}
def ptrC : Cod Nat where
 n := 1
 rep _ P c b := c = [.ptr b 0]
 len e := by subst e; rfl
 flat e := by subst e; rfl
 mono e _ := e
 keep e _ _ := e
 lt e := e
structure CoreW where
 b : Nat
 jb : Nat
 gb : Nat
 mb : Nat
 tb : Nat
 tv : CV
 bv : CV
 cev : CV
 pv : CV
 lpv : CV
 lb : List Nat
structure CoreX where
 jobs : List JobV
 own : List Int
 f : Int → Option Int
 gn : Int
 now : Int
 seq : Int
def CoreW.own (K : CoreW) : Nat → Prop := fun y => y = K.b ∨ y = K.jb ∨ y = K.gb ∨ y = K.mb ∨ y = K.tb ∨ y ∈ K.lb
structure CoreV (K : CoreW) (cells : List CV) (x : SetV) (s : CoreX) (Q : Nat → Prop) (h : Heap) : Prop where
 g : h[K.b]? = some (.arr [.int .i64 x.locks, .nils, K.tv, K.bv, K.cev, .sl K.jb 0 x.tasks.length x.tasks.length, .nils, K.lpv, .ptr K.gb 0, .ptr K.tb 0, .int .i64 s.now, .int .i64 s.seq] .tight)
 jg : h[K.jb]? = some (.arr cells .tight)
 tg : h[K.tb]? = some (.arr [.nils] .tight)
 gd : GuardAt h K.gb K.pv K.mb (x.tasks.map (·.per)) s.f s.gn
 ts : Sl taskC h Q K.tv x.tasks
 bs : Sl (.int .i64) h Q K.bv (priosP x.tasks)
 cs : Sl (.int .i64) h Q K.cev (ceilsP x)
 rs : Rows jobC h Q cells s.jobs
 jl : s.jobs.length = x.tasks.length
 ls : Sl ptrC h Q K.lpv K.lb
 ll : K.lb.length = s.own.length
 lo : ∀ (i : Nat) b o, K.lb[i]? = some b → s.own[i]? = some o → h[b]? = some (.arr [.int .i64 o, .nils] .tight)
 ldd : K.lb.Nodup
 a1 : K.b ≠ K.jb
 a2 : K.b ≠ K.gb
 a3 : K.b ≠ K.mb
 a4 : K.b ≠ K.tb
 a5 : K.jb ≠ K.gb
 a6 : K.jb ≠ K.mb
 a7 : K.jb ≠ K.tb
 a8 : K.tb ≠ K.gb
 a9 : K.tb ≠ K.mb
 al : ∀ b ∈ K.lb, b ≠ K.b ∧ b ≠ K.jb ∧ b ≠ K.gb ∧ b ≠ K.mb ∧ b ≠ K.tb
 hQ : ∀ y, Q y → y < h.length ∧ ¬ K.own y
 pQ : ∀ y, K.pv.blk = some y → Q y
def NewX (x : SetV) (h : Heap) (r : CV) (h' : Heap) : Prop :=
 Keep NoneOf h h' ∧ ∃ K cells Q, r = .tup [.ptr K.b 0, .int .i64 0] ∧ CoreV K cells x ⟨List.replicate x.tasks.length deadJ, List.replicate x.locks.toNat (-1), fun _ => none, 0, 0, 0⟩ Q h' ∧ ∀ y, K.own y → h.length ≤ y
def LkN (b gb tb k : Nat) (c : CV → List CV) (H : Heap) (m : Nat) (e : Env) (h' : Heap) : Prop :=
 ∃ (i : Nat) (lb : List Nat) (v : CV), i ≤ k ∧ m = k - i ∧ e = [(6, .ptr b 0), (60, .int .i64 k), (61, .int .i64 i)] ∧ Keep (fun y => y = b) H h' ∧ h'[b]? = some (.arr (c v) .tight) ∧ OwnL ptrC h' NoneOf v lb ∧ (∀ y, v.blk = some y → H.length ≤ y ∧ y ∉ lb) ∧
  lb.length = i ∧ lb.Nodup ∧ ∀ y ∈ lb, H.length ≤ y ∧ h'[y]? = some (.arr [.int .i64 (-1), .nils] .tight)
theorem newX (lp : LP p) {h : Heap} {P : Nat → Prop} {x : SetV} {tv : CV} {k : Nat} (st : Sl taskC h P tv x.tasks) (hl : x.locks = k) (hk8 : k ≤ 8) (hc : x.chans = []) (hP : ∀ b, P b → b < h.length) (hs : x.Sane) (hok : (setP x).2 = 0) (hlk : ∀ t ∈ x.tasks, (locksL t.prog).length ≤ 1) :
  WF p 305 [.agg [.int .i64 k, .nils, tv]] h (NewX x h) := by
 refine WF_of (by rw [lp.pg]; exact S.pg305) (lp.no ⟨rfl, rfl⟩) ?_
 show W p S.b305 _ _ (retQ [.t 2, .t 3] _)
 unfold S.b305
 obtain ⟨_, ok⟩ := setOk hok
 have ht0 := ok.t0
 have ht12 := ok.t1
 have hca : ∀ l, (CV.agg l).cells = l := fun _ => rfl
 have kap := Keep.app NoneOf h [.arr [.int .i64 k, .nils, tv] .tight]
 have g0 := get_new (h := h) (o := .arr [.int .i64 k, .nils, tv] .tight)
 have rx : setC.rep h P [.int .i64 k, .nils, tv] x := ⟨.nils, tv, by rw [hl], by rw [hc]; exact Sl.nil, st⟩
 have rx1 := setC.on rx kap
 have w0 := ldw g0 (n := 3) rfl
 simp [hca, w0]
 refine (setCheck_spec lp rx1 hs).mono ?_
 rintro r h1 ⟨rfl, k1⟩
 have g1 := k1.at g0 id
 have w1 := ldw g1 (n := 3) rfl
 have st1 := ((st.on kap).on k1)
 simp [hok, w1]
 have hprog : ∀ t ∈ x.tasks, t.prog ≠ [] ∧ t.prog.length ≤ 1000 := fun t ht => by
  obtain ⟨i, hi⟩ := List.mem_iff_getElem?.1 ht
  have q := (taskOk (ok.ta i t hi)).1
  have := (progP_ok q.pr).1
  refine ⟨fun e => q.cost (by rw [e]; rfl), by omega⟩
 have kl := kap.trans k1
 refine (copied_spec lp (lk := k) st1 (fun b hb => by have := hP b hb; have := kl.len; omega) ht0 (by omega) hprog).mono ?_
 rintro r h2 ⟨k2, tv2, rfl, st2⟩
 obtain ⟨b2, o2, c2, rfl⟩ := st2.is_sl (by decide) (by intro e; rw [e] at ht0; simp at ht0)
 have g2 := k2.at g1 id
 have hsc2 := st2.scalar
 have s2 := sto g2 (vs := [.int .i64 k, .nils, .sl b2 o2 x.tasks.length c2]) rfl (by simp only [List.all_cons, List.all_nil, hsc2]; rfl)
 have k3 : Keep (fun y => y = h.length) h2 (h2.set h.length (.arr [.int .i64 k, .nils, .sl b2 o2 x.tasks.length c2] .tight)) := Keep.set _ _ rfl
 have g3 := get_set_self (o := .arr [.int .i64 k, .nils, .sl b2 o2 x.tasks.length c2] .tight) (lt_of_get g2)
 have hkl := lt_of_get g1
 have st3 := (st2.lt.keep k3 fun b hb e => by rcases hb.1 with q | q; · have := hP b q; omega
                                              ·omega)
 have K3 : Keep NoneOf h (h2.set h.length (.arr [.int .i64 k, .nils, .sl b2 o2 x.tasks.length c2] .tight)) := (kl.trans k2).then k3 fun y hy e => by omega
 have hl3 : (h2.set h.length (.arr [.int .i64 k, .nils, .sl b2 o2 x.tasks.length c2] .tight)).length = h2.length := by simp
 have hl2 := k2.len
 simp [hca, s2]
 generalize h2.set h.length (.arr [.int .i64 k, .nils, .sl b2 o2 x.tasks.length c2] .tight) = H3 at *
 have w3 := ldw g3 (n := 3) rfl
 have l3 := ld g3
 have nt := st3.len (by decide)
 have hbg : x.tasks.length ≤ big := by simp [big]; omega
 have k4 := Keep.app NoneOf H3 [.arr (List.replicate x.tasks.length deadC).flatten .tight]
 have gj4 := get_new (h := H3) (o := .arr (List.replicate x.tasks.length deadC).flatten .tight)
 have g4 := k4.at g3 id
 have w4 := ldw g4 (n := 3) rfl
 have st4 := st3.on k4
 have rx4 : setC.rep (H3 ++ [.arr (List.replicate x.tasks.length deadC).flatten .tight]) (fun b => (P b ∨ h1.length ≤ b) ∧ b < h2.length) [.int .i64 k, .nils, .sl b2 o2 x.tasks.length c2] x := ⟨.nils, _, by rw [hl], by rw [hc]; exact Sl.nil, st4⟩
 have hdc : [CV.bool false, .nils, .int .i64 0, .int .i64 0, .int .i64 0, .int .i64 0, .int .i64 0, .int .i64 0, .bool false, .nils] = deadC := rfl
 simp [w3, l3, nt, hbg]
 rw [hdc]
 simp [w4]
 generalize hH4 : H3 ++ [Obj.arr (List.replicate x.tasks.length deadC).flatten .tight] = H4 at *
 have hH4l : H4.length = H3.length + 1 := by rw [← hH4]; simp
 refine WO_re_n ?_
 simp
 refine (priosG lp rx4 (fun y hy => by have := hy.2; have := hH4l; omega) ht0 ht12).mono ?_
 rintro r h5 ⟨k5, ob, rfl, hob, gob⟩
 have g5 := k5.at g4 id
 have w5 := ldw g5 (n := 3) rfl
 have l5 := ld g5
 have nt5 := (st4.on k5).len (by decide)
 refine ⟨fun c' => by simp [recheckB, wanted, Env.get, cls, evOp, Opd.ev, withH, CV.eqb, CV.eqb_refl, CV.eqbL_refl, w5, l5, nt5, i64], ?_⟩
 refine WO_re_n ?_
 simp
 refine (ceilG lp (setC.on rx4 k5) hl hk8 (fun y hy => by have := hy.2; have := k5.len; omega) ht0 ht12 (fun t ht => ⟨(hprog t ht).2, hlk t ht⟩)).mono ?_
 rintro r h6 ⟨k6, ce, rfl, hce, gce⟩
 have g6 := k6.at g5 id
 have w6 := ldw g6 (n := 3) rfl
 have l6 := ld g6
 have st6 := (st4.on k5).on k6
 have nt6 := st6.len (by decide)
 refine ⟨fun c' => by simp [recheckB, wanted, Env.get, cls, evOp, Opd.ev, withH, CV.eqb, CV.eqb_refl, CV.eqbL_refl, w6, l6, nt6, i64], ?_⟩
 refine WO_re_n ?_
 simp
 have hta : TasksAt h6 (.sl b2 o2 x.tasks.length c2) (x.tasks.map (·.per)) := by
  obtain ⟨cs, rd, _, rows⟩ := st6
  have hn5 : taskC.n = 5 := rfl
  refine ⟨cs, rd, by rw [rows.1, hn5]; simp; omega, fun i hi => ?_⟩
  have hi' : i < x.tasks.length := by simpa using hi
  obtain ⟨pv0, e, _⟩ := rows.2 i x.tasks[i] (List.getElem?_eq_getElem hi')
  rw [hn5] at e
  have : ((cs.drop (i * 5)).take 5)[1]? = some (.int .i64 x.tasks[i].per) := by rw [e]; rfl
  rw [List.getElem?_take_of_lt (by omega), List.getElem?_drop] at this
  rw [this]; simp
 refine (new_spec (by rw [lp.pg]; exact S.pg5) (lp.no ⟨rfl, rfl⟩) hta (by simp [big]; omega)).mono ?_
 rintro r h7 ⟨gb, pv, mb, rfl, gd, k7, hgb, hmb, hpv⟩
 have k7 : Keep NoneOf h6 h7 := k7
 have g7 := k7.at g6 id
 have w7 := ldw g7 (n := 3) rfl
 have l7 := ld g7
 have nt7 := (st6.on k7).len (by decide)
 refine ⟨fun c' => by simp [recheckB, wanted, Env.get, cls, evOp, Opd.ev, withH, CV.eqb, CV.eqb_refl, CV.eqbL_refl, w7, l7, nt7, i64], ?_⟩
 refine WO_re_n ?_
 simp
 refine WF_of (by rw [lp.pg]; exact S.pg320) (lp.no ⟨rfl, rfl⟩) ?_
 show W p S.b320 _ _ (retQ [.t 0] _)
 unfold S.b320
 have f1 : fillC [.nils] [] = some [.nils] := rfl
 simp [f1, hca]
 have k8 := Keep.app NoneOf h7 [.arr [.nils] .tight]
 have w8 := ldw (k8.at g7 id) (n := 3) rfl
 have l8 := ld (k8.at g7 id)
 refine ⟨fun c' => by simp [recheckB, wanted, Env.get, cls, evOp, Opd.ev, withH, CV.eqb, CV.eqb_refl, CV.eqbL_refl, w8, l8, i64], ?_⟩
 have f2 : fillC [.int .i64 0, .nils, .nils, .nils, .nils, .nils, .nils, .nils, .nilp, .nilp, .int .i64 0, .int .i64 0]
   [(0, 3, .agg [.int .i64 k, .nils, .sl b2 o2 x.tasks.length c2]), (3, 1, .sl ob 0 x.tasks.length x.tasks.length), (4, 1, .sl ce 0 k k), (5, 1, .sl H3.length 0 x.tasks.length x.tasks.length), (8, 1, .ptr gb 0), (9, 1, .ptr h7.length 0)] =
   some [.int .i64 k, .nils, .sl b2 o2 x.tasks.length c2, .sl ob 0 x.tasks.length x.tasks.length, .sl ce 0 k k, .sl H3.length 0 x.tasks.length x.tasks.length, .nils, .nils, .ptr gb 0, .ptr h7.length 0, .int .i64 0, .int .i64 0] := rfl
 simp [f2]
 have k9 := Keep.app NoneOf h7 [.arr [.nils] .tight, .arr [.int .i64 k, .nils, .sl b2 o2 x.tasks.length c2, .sl ob 0 x.tasks.length x.tasks.length, .sl ce 0 k k, .sl H3.length 0 x.tasks.length x.tasks.length, .nils, .nils, .ptr gb 0, .ptr h7.length 0, .int .i64 0, .int .i64 0] .tight]
 have gc9 : (h7 ++ [Obj.arr [.nils] .tight, .arr [.int .i64 k, .nils, .sl b2 o2 x.tasks.length c2, .sl ob 0 x.tasks.length x.tasks.length, .sl ce 0 k k, .sl H3.length 0 x.tasks.length x.tasks.length, .nils, .nils, .ptr gb 0, .ptr h7.length 0, .int .i64 0, .int .i64 0] .tight])[h7.length + 1]? = some (.arr [.int .i64 k, .nils, .sl b2 o2 x.tasks.length c2, .sl ob 0 x.tasks.length x.tasks.length, .sl ce 0 k k, .sl H3.length 0 x.tasks.length x.tasks.length, .nils, .nils, .ptr gb 0, .ptr h7.length 0, .int .i64 0, .int .i64 0] .tight) := by simp
 have gt9 : (h7 ++ [Obj.arr [.nils] .tight, .arr [.int .i64 k, .nils, .sl b2 o2 x.tasks.length c2, .sl ob 0 x.tasks.length x.tasks.length, .sl ce 0 k k, .sl H3.length 0 x.tasks.length x.tasks.length, .nils, .nils, .ptr gb 0, .ptr h7.length 0, .int .i64 0, .int .i64 0] .tight])[h7.length]? = some (.arr [.nils] .tight) := by simp
 generalize hH9 : h7 ++ [Obj.arr [.nils] .tight, .arr [.int .i64 k, .nils, .sl b2 o2 x.tasks.length c2, .sl ob 0 x.tasks.length x.tasks.length, .sl ce 0 k k, .sl H3.length 0 x.tasks.length x.tasks.length, .nils, .nils, .ptr gb 0, .ptr h7.length 0, .int .i64 0, .int .i64 0] .tight] = H9 at *
 have hH9l : H9.length = h7.length + 2 := by rw [← hH9]; simp
 have l9 := ld (k9.at g7 id)
 simp [l9]
 refine W_loop (fun m e h' => m = 0 ∧ e = [(1, .ptr h.length 0), (6, .ptr (h7.length + 1) 0), (36, .nils), (37, .int .i64 0), (38, .int .i64 0)] ∧ h' = H9) ?_ 0 ⟨rfl, rfl, rfl⟩
 rintro m e H2 ⟨rfl, rfl, rfl⟩
 simp [l9]
 refine W_loop (LkN (h7.length + 1) gb h7.length k (fun lv => [.int .i64 k, .nils, .sl b2 o2 x.tasks.length c2, .sl ob 0 x.tasks.length x.tasks.length, .sl ce 0 k k, .sl H3.length 0 x.tasks.length x.tasks.length, .nils, lv, .ptr gb 0, .ptr h7.length 0, .int .i64 0, .int .i64 0]) H2) ?_ k ⟨0, [], .nils, by omega, by omega, rfl, Keep.refl _ _, gc9, OwnL.nil, by simp [CV.blk], rfl, List.nodup_nil, by simp⟩
 rintro m e H5 ⟨i, lb, v, hi, rfl, rfl, kL, gL, oL, vL, hlb, ndL, atL⟩
 have hkL := kL.len
 have hbL := lt_of_get gL
 by_cases hik : i = k
 case neg =>
  have hlt : i < k := by omega
  have hlt' : (i : Int) < k := by omega
  have hw : IntKind.i64.wrap ((i : Int) + 1) = ((i + 1 : Nat) : Int) := by rw [w64 (by omega) (by omega)]; omega
  have lL := ld gL
  have f1 : fillC [.int .i64 0, .nils] [(0, 1, .int .i64 (-1))] = some [.int .i64 (-1), .nils] := rfl
  have f2 : ∀ q, fillC [.nilp] [(0, 1, .ptr q 0)] = some [.ptr q 0] := fun _ => rfl
  have ka := Keep.app NoneOf H5 [.arr [.int .i64 (-1), .nils] .tight]
  have lLa := ld (ka.at gL id)
  have key : WF p 322 [] H5 fun r h' => r = .ptr H5.length 0 ∧ h' = H5 ++ [.arr [.int .i64 (-1), .nils] .tight] := by
   refine WF_of (by rw [lp.pg]; exact S.pg322) (lp.no ⟨rfl, rfl⟩) ?_
   show W p S.b322 _ _ (retQ [.t 0] _)
   unfold S.b322
   simp [f1, hca]
  simp [hlt, hlt', lL]
  refine WO_re_n ?_
  simp
  refine key.mono ?_
  rintro r H6 ⟨rfl, rfl⟩
  refine ⟨fun c' => by simp [recheckB, wanted, Env.get, cls, evOp, Opd.ev, withH, CV.eqb, CV.eqb_refl, CV.eqbL_refl, lLa, i64], ?_⟩
  have kb := Keep.app NoneOf H5 [.arr [.int .i64 (-1), .nils] .tight, .arr [.ptr H5.length 0] .tight]
  have gn : (H5 ++ [Obj.arr [.int .i64 (-1), .nils] .tight, .arr [.ptr H5.length 0] .tight])[H5.length]? = some (.arr [.int .i64 (-1), .nils] .tight) := by simp
  have gb2 := kb.at gL id
  have ob2 := oL.on kb
  have atb : ∀ y ∈ lb, (H5 ++ [Obj.arr [.int .i64 (-1), .nils] .tight, .arr [.ptr H5.length 0] .tight])[y]? = some (.arr [.int .i64 (-1), .nils] .tight) := fun y hy => kb.at (atL y hy).2 id
  have hlbl : ∀ y ∈ lb, y < H5.length := fun y hy => lt_of_get (atL y hy).2
  simp [f2, spread, cellsAt]
  generalize hH6 : H5 ++ [Obj.arr [.int .i64 (-1), .nils] .tight, .arr [.ptr H5.length 0] .tight] = H6 at *
  have hH6l : H6.length = H5.length + 2 := by rw [← hH6]; simp
  refine OV_push (e := ptrC) (x := H5.length) ob2 rfl (fun _ hb => hb.elim) (by simp [big]; omega) (by decide) fun v2 H7 o7 k7' hb7 => ?_
  have gb7 := k7'.at gb2 fun e => by have := (vL _ e).1; omega
  have hsc := o7.scalar
  have s7 := sto1 gb7 (o := 7) (v := v2) (by simp) hsc
  have kS : Keep (fun y => y = h7.length + 1) H7 (H7.set (h7.length + 1) (.arr [.int .i64 k, .nils, .sl b2 o2 x.tasks.length c2, .sl ob 0 x.tasks.length x.tasks.length, .sl ce 0 k k, .sl H3.length 0 x.tasks.length x.tasks.length, .nils, v2, .ptr gb 0, .ptr h7.length 0, .int .i64 0, .int .i64 0] .tight)) := Keep.set _ _ rfl
  simp only [List.set_cons_succ, List.set_cons_zero] at s7
  have hv2 : ∀ y, v2.blk = some y → H2.length ≤ y ∧ y ∉ lb ∧ y ≠ H5.length := fun y hy => by
   rcases hb7 y hy with q | q
   ·exact ⟨(vL y q).1, (vL y q).2, by have := oL.blk y q; omega⟩
   ·exact ⟨by omega, fun hm => by have := hlbl y hm; omega, by omega⟩
  have fs := fits_scalar hsc
  have cs7 := CV.cells_scalar hsc
  simp [fs, cs7, s7, hw]
  have k67 := k7'.len
  refine ⟨k - (i + 1), by omega, i + 1, lb ++ [H5.length], v2, by omega, rfl, rfl, ((kL.trans (kb.mono fun _ _ => False.elim)).then k7' fun y hy e => by have := (vL _ e).1; omega).trans kS, get_set_self (lt_of_get gb7), ?_, fun y hy => ?_, by simp [hlb], ?_, fun y hy => ?_⟩
  ·exact o7.keep kS (fun y hy e => by have := (hv2 y hy).1; omega) fun _ h => h.elim
  ·obtain ⟨q1, q2, q3⟩ := hv2 y hy
   exact ⟨q1, by simp [q2, q3]⟩
  ·rw [List.nodup_append]
   exact ⟨ndL, by simp, fun a ha b hb e => by simp at hb; have := hlbl a ha; omega⟩
  ·rw [List.mem_append] at hy
   rcases hy with hy | hy
   ·have q := atb y hy
    have q0 := (atL y hy).1
    exact ⟨q0, kS.at (k7'.at q fun e => (vL y e).2 hy) (by omega)⟩
   ·simp at hy
    subst hy
    exact ⟨by omega, kS.at (k7'.at gn fun e => by have := oL.blk _ e; omega) (by omega)⟩
 subst hik
 simp
 have e5 := k5.len
 have e6 := k6.len
 have e7 := k7.len
 have hgb7 := lt_of_get gd.obj
 have hmb7 : mb < h7.length := by obtain ⟨es, cc, q, _⟩ := gd.map; exact lt_of_get q
 have hob5 := lt_of_get gob
 have hce6 := lt_of_get gce
 have K9 := k9.trans (Keep.refl NoneOf _)
 have KL : Keep NoneOf h7 H5 := K9.then kL fun y hy e => by omega
 have st9 := (st6.on k7).on KL
 have gj9 := KL.at (k7.at (k6.at (k5.at gj4 id) id) id) id
 have go9 := KL.at (k7.at (k6.at gob id) id) id
 have gc9' := KL.at (k7.at gce id) id
 have gt9' := kL.at gt9 (by omega)
 have hmo : Mine H5 1 (.sl ob 0 x.tasks.length x.tasks.length) (ints .i64 (priosP x.tasks)) := .inr ⟨ob, _, .tight, rfl, by simp [ints], .inl rfl, go9⟩
 have hmc : Mine H5 1 (.sl ce 0 i i) (ints .i64 (ceilsP x)) := .inr ⟨ce, _, .tight, rfl, by simp [ints, ceilsP, hl], .inl rfl, gc9'⟩
 refine ⟨(((((K3.trans k4).trans k5).trans k6).trans k7).trans KL), ⟨h7.length + 1, H3.length, gb, mb, h7.length, .sl b2 o2 x.tasks.length c2, .sl ob 0 x.tasks.length x.tasks.length, .sl ce 0 i i, pv, v, lb⟩, (List.replicate x.tasks.length deadC).flatten, fun y => (y < h7.length ∧ y ≠ H3.length ∧ y ≠ gb ∧ y ≠ mb) ∨ v.blk = some y, rfl, ?_, ?_⟩
 case refine_2 =>
  rintro y (q | q | q | q | q | q)
  all_goals simp only at q
  all_goals first | omega | (have := (atL y q).1; omega)
 have hown : ∀ y ∈ lb, H2.length ≤ y := fun y hy => (atL y hy).1
 refine ⟨by rw [gL, hl], gj9, gt9', gd.keep KL (fun h => h) (fun h => h) fun _ _ h => h, st9.mono fun y hy => .inl (by have := hy.2; omega), ⟨_, hmo.read, ⟨hmo.ok, fun y hy => .inl (by simp [CV.blk] at hy; subst hy; omega)⟩, rows_ints.2 rfl⟩, ⟨_, hmc.read, ⟨hmc.ok, fun y hy => .inl (by simp [CV.blk] at hy; subst hy; omega)⟩, rows_ints.2 rfl⟩, dead_rows _, by simp,
  oL.sl.mono fun y hy => .inr (hy.elim False.elim id), by simp [hlb, hl], fun j y o hj ho => ?_, ndL, by intro e; simp only at e; omega, by intro e; simp only at e; omega, by intro e; simp only at e; omega, by intro e; simp only at e; omega, by intro e; simp only at e; omega, by intro e; simp only at e; omega, by intro e; simp only at e; omega, by intro e; simp only at e; omega, by intro e; simp only at e; omega, fun y hy => ?_, fun y hy => ?_, fun y hy => ?_⟩
 ·have hm := List.mem_of_getElem? hj
  have : o = -1 := List.eq_of_mem_replicate (List.mem_of_getElem? ho)
  rw [this]
  exact (atL y hm).2
 ·have := hown y hy
  exact ⟨by simp only; omega, by simp only; omega, by simp only; omega, by simp only; omega, by simp only; omega⟩
 ·rcases hy with hy | hy
  ·refine ⟨by have := KL.len; omega, ?_⟩
   rintro (q | q | q | q | q | q)
   all_goals simp only at q
   all_goals first | omega | (have := hown y q; omega)
  ·have q1 := vL y hy
   refine ⟨oL.blk y hy, ?_⟩
   rintro (q | q | q | q | q | q)
   all_goals simp only at q
   all_goals first | omega | exact q1.2 q
 ·have h1 := gd.per.blk_lt y hy
  have h2 := gd.apart y hy
  have h3 := hpv y hy
  exact .inl (by omega)
theorem stepY {K : Nat} {h : Heap} {c : List CV} {x : JobV} {P : Nat → Prop} (hp : p.Pg K = some S.f41) (hq : p.pr K = none) (r0 : jobC.rep h P c x) :
  WF p K [.agg c] h fun r h' => Keep NoneOf h h' ∧ ∃ d, r = .agg d ∧ jobC.rep h' P d (stepF x) := by
 obtain ⟨fv, hv, rfl, s0, t0⟩ := r0
 obtain ⟨live, flat, pc, left, used, most, since, seq, waits, held⟩ := x
 simp only [jobCells] at s0 t0 ⊢
 have kap : ∀ g, Keep NoneOf h (h ++ g) := fun g => Keep.app _ _ _
 have f1 := s0.scalar
 have f2 := t0.scalar
 have fin : ∀ g, jobC.rep (h ++ g) P [.bool live, fv, .int .i64 (IntKind.i64.wrap (pc + 1)), .int .i64 0, .int .i64 used, .int .i64 most, .int .i64 since, .int .i64 seq, .bool false, hv] (stepF ⟨live, flat, pc, left, used, most, since, seq, waits, held⟩) := fun g => ⟨fv, hv, rfl, s0.on (kap _), t0.on (kap _)⟩
 refine WF_of hp hq ?_
 show W p S.b41 _ _ (retQ [.cell (some 10) 2] _)
 unfold S.b41
 simp [two0, two_st0, store_new2, two0n, two1n, f1, f2]
 exact ⟨kap _, fin _⟩
theorem takeY {K : Nat} {h : Heap} {c : List CV} {x : JobV} {k : Int} {P : Nat → Prop} (hp : p.Pg K = some S.f43) (hq : p.pr K = none) (h55 : p.Pg 55 = some S.f55) (q55 : p.pr 55 = none) (r0 : jobC.rep h P c x) (hb : x.held.length ≤ big) :
  WF p K [.agg c, .int .i64 k] h fun r h' => Keep NoneOf h h' ∧ ∃ d, r = .agg d ∧ jobC.rep h' (Or P h) d (takeF x k) := by
 obtain ⟨fv, hv, rfl, s0, t0⟩ := r0
 obtain ⟨live, flat, pc, left, used, most, since, seq, waits, held⟩ := x
 simp only [jobCells] at s0 t0 hb ⊢
 have kap : ∀ (h : Heap) g, Keep NoneOf h (h ++ g) := fun h g => Keep.app _ _ _
 have f1 := s0.scalar
 have f2 := t0.scalar
 obtain ⟨C, hC⟩ : ∃ C : List CV, C = [.bool live, fv, .int .i64 pc, .int .i64 left, .int .i64 used, .int .i64 most, .int .i64 since, .int .i64 seq, .bool waits, hv] := ⟨_, rfl⟩
 have fin : ∀ (h2 : Heap) (rv : CV), Keep NoneOf h h2 → OwnL (.int .i64) h2 NoneOf rv (held ++ [k]) → (∀ b, rv.blk = some b → h.length + 2 ≤ b) → h2[h.length]? = some (.arr C .tight) →
   h2[h.length + 1]? = some (.arr [.bool false, .nils, .int .i64 0, .int .i64 0, .int .i64 0, .int .i64 0, .int .i64 0, .int .i64 0, .bool false, .nils] .tight) →
   OV (storeAt h2 h.length 9 [rv]) fun h3 => ∃ D h4, loadAt h3 h.length 0 (some 10) = some (.agg D) ∧ D.length = 10 ∧ storeAt h3 (h.length + 1) 0 D = some h4 ∧ loadAt h4 (h.length + 1) 0 (some 10) = some (.agg D) ∧ Keep NoneOf h h4 ∧ jobC.rep h4 (Or P h) D (takeF ⟨live, flat, pc, left, used, most, since, seq, waits, held⟩ k) := by
  intro h2 rv k2 ow hrv g0 g1
  subst hC
  have f3 := ow.scalar
  rw [sto1 g0 (by simp) f3, OV_some]
  have l0 := lt_of_get g0
  have l1 := lt_of_get g1
  have ke : Keep (fun b => b = h.length) h2 (h2.set h.length (.arr [.bool live, fv, .int .i64 pc, .int .i64 left, .int .i64 used, .int .i64 most, .int .i64 since, .int .i64 seq, .bool waits, rv] .tight)) := Keep.set _ _ rfl
  have gg1 := ke.at g1 (by omega)
  have fl : ([.bool live, fv, .int .i64 pc, .int .i64 left, .int .i64 used, .int .i64 most, .int .i64 since, .int .i64 seq, .bool waits, rv] : List CV).all CV.scalar = true := by
   simp only [List.all_cons, List.all_nil, f1, f3]; rfl
  have ke2 : Keep (fun b => b = h.length + 1) _ ((h2.set h.length (.arr [.bool live, fv, .int .i64 pc, .int .i64 left, .int .i64 used, .int .i64 most, .int .i64 since, .int .i64 seq, .bool waits, rv] .tight)).set (h.length + 1) (.arr [.bool live, fv, .int .i64 pc, .int .i64 left, .int .i64 used, .int .i64 most, .int .i64 since, .int .i64 seq, .bool waits, rv] .tight)) := Keep.set _ _ rfl
  have kall : Keep NoneOf h _ := (k2.then ke fun b hb e => by omega).then ke2 fun b hb e => by omega
  refine ⟨_, _, ldw (get_set_self l0) rfl, rfl, sto gg1 rfl fl, ldw (get_set_self (by simpa using l1)) rfl, kall, fv, rv, rfl, (s0.on kall).mono fun b hb => .inl hb, ?_⟩
  have o2 := (ow.keep ke (fun b hb e => by have := hrv b hb; omega) fun b hb => hb.elim).keep ke2 (fun b hb e => by have := hrv b hb; omega) fun b hb => hb.elim
  refine o2.sl.mono fun b hb => ?_
  rcases hb with hb | hb
  ·exact hb.elim
  ·have := hrv b hb; right; omega
 refine WF_of hp hq ?_
 show W p S.b43 _ _ (retQ [.cell (some 10) 4] _)
 unfold S.b43
 rw [← hC]
 simp [two0]
 have e9 : C[9]? = some hv := by subst hC; rfl
 simp [e9]
 have H0 : ∀ g, t0.on (kap h g) = t0.on (kap h g) := fun _ => rfl
 refine (cloneN_spec h55 q55 (t0.on (kap h _)) hb).mono ?_
 rintro r h2 ⟨o2, k2, hr2⟩
 have g0 := k2.at (b := h.length) (o := .arr C .tight) (by simp) id
 have g1 := k2.at (b := h.length + 1) (o := .arr [.bool false, .nils, .int .i64 0, .int .i64 0, .int .i64 0, .int .i64 0, .int .i64 0, .int .i64 0, .bool false, .nils] .tight) (by simp) id
 simp [fillC, splice, spread, cellsAt]
 refine OV_push (e := .int .i64) (x := k) (o2.on (kap _ _)) rfl (fun b hb => hb.elim) hb (by decide) ?_
 intro rv h3 o3 k3 hb3
 have hl2 := k2.len
 simp at hl2
 have hrv : ∀ b, rv.blk = some b → h.length + 2 ≤ b := by
  intro b hb
  rcases hb3 b hb with q | q
  ·have := hr2 b q; simp at this; omega
  ·simp at q; omega
 have kk : Keep NoneOf h h3 := (((kap h _).trans k2).trans (kap _ _)).then k3 fun b hb e => by have := hr2 b e; simp at this; omega
 have n0 : r.blk ≠ some h.length := fun e => by have := hr2 _ e; simp at this; try omega
 have n1 : r.blk ≠ some (h.length + 1) := fun e => by have := hr2 _ e; simp at this; try omega
 have fin' := fin h3 rv kk o3 hrv (k3.at (get_app g0) n0) (k3.at (get_app g1) n1)
 simp [CV.cells_scalar o3.scalar, fits_scalar o3.scalar]
 obtain ⟨h4, e4, D, h5, q1, q2, q3, q4, q5, q6⟩ := fin'
 simp [e4, q1, q2, q3, q4]
 exact ⟨q5, q6⟩
theorem giveY {K : Nat} {h : Heap} {c : List CV} {x : JobV} {k : Int} {P : Nat → Prop} (hp : p.Pg K = some S.f45) (hq : p.pr K = none) (r0 : jobC.rep h P c x) (hb : x.held.length ≤ big) :
  WF p K [.agg c, .int .i64 k] h fun r h' => Keep NoneOf h h' ∧ ∃ d, r = .agg d ∧ jobC.rep h' (Or P h) d (giveF x k) := by
 obtain ⟨fv, hv, rfl, s0, t0⟩ := r0
 obtain ⟨live, flat, pc, left, used, most, since, seq, waits, held⟩ := x
 simp only [jobCells] at s0 t0 hb ⊢
 have kap : ∀ (h : Heap) g, Keep NoneOf h (h ++ g) := fun h g => Keep.app _ _ _
 have f1 := s0.scalar
 have f2 := t0.scalar
 obtain ⟨C, hC⟩ : ∃ C : List CV, C = [.bool live, fv, .int .i64 pc, .int .i64 left, .int .i64 used, .int .i64 most, .int .i64 since, .int .i64 seq, .bool waits, hv] := ⟨_, rfl⟩
 have fin : ∀ (h2 : Heap) (rv : CV), Keep NoneOf h h2 → OwnL (.int .i64) h2 NoneOf rv (held.filter fun y => decide (y ≠ k)) → (∀ b, rv.blk = some b → h.length + 2 ≤ b) → h2[h.length]? = some (.arr C .tight) →
   h2[h.length + 1]? = some (.arr [.bool false, .nils, .int .i64 0, .int .i64 0, .int .i64 0, .int .i64 0, .int .i64 0, .int .i64 0, .bool false, .nils] .tight) →
   OV (storeAt h2 h.length 9 [rv]) fun h3 => ∃ D h4, loadAt h3 h.length 0 (some 10) = some (.agg D) ∧ D.length = 10 ∧ storeAt h3 (h.length + 1) 0 D = some h4 ∧ loadAt h4 (h.length + 1) 0 (some 10) = some (.agg D) ∧ Keep NoneOf h h4 ∧ jobC.rep h4 (Or P h) D (giveF ⟨live, flat, pc, left, used, most, since, seq, waits, held⟩ k) := by
  intro h2 rv k2 ow hrv g0 g1
  subst hC
  have f3 := ow.scalar
  rw [sto1 g0 (by simp) f3, OV_some]
  have l0 := lt_of_get g0
  have l1 := lt_of_get g1
  have ke : Keep (fun b => b = h.length) h2 (h2.set h.length (.arr [.bool live, fv, .int .i64 pc, .int .i64 left, .int .i64 used, .int .i64 most, .int .i64 since, .int .i64 seq, .bool waits, rv] .tight)) := Keep.set _ _ rfl
  have gg1 := ke.at g1 (by omega)
  have fl : ([.bool live, fv, .int .i64 pc, .int .i64 left, .int .i64 used, .int .i64 most, .int .i64 since, .int .i64 seq, .bool waits, rv] : List CV).all CV.scalar = true := by
   simp only [List.all_cons, List.all_nil, f1, f3]; rfl
  have ke2 : Keep (fun b => b = h.length + 1) _ ((h2.set h.length (.arr [.bool live, fv, .int .i64 pc, .int .i64 left, .int .i64 used, .int .i64 most, .int .i64 since, .int .i64 seq, .bool waits, rv] .tight)).set (h.length + 1) (.arr [.bool live, fv, .int .i64 pc, .int .i64 left, .int .i64 used, .int .i64 most, .int .i64 since, .int .i64 seq, .bool waits, rv] .tight)) := Keep.set _ _ rfl
  have kall : Keep NoneOf h _ := (k2.then ke fun b hb e => by omega).then ke2 fun b hb e => by omega
  refine ⟨_, _, ldw (get_set_self l0) rfl, rfl, sto gg1 rfl fl, ldw (get_set_self (by simpa using l1)) rfl, kall, fv, rv, rfl, (s0.on kall).mono fun b hb => .inl hb, ?_⟩
  have o2 := (ow.keep ke (fun b hb e => by have := hrv b hb; omega) fun b hb => hb.elim).keep ke2 (fun b hb e => by have := hrv b hb; omega) fun b hb => hb.elim
  refine o2.sl.mono fun b hb => ?_
  rcases hb with hb | hb
  ·exact hb.elim
  ·have := hrv b hb; right; omega
 have e9 : C[9]? = some hv := by subst hC; rfl
 have hbb : (held.length : Int) ≤ 4294967296 := by simp [big] at hb; omega
 refine WF_of hp hq ?_
 show W p S.b45 _ _ (retQ [.cell (some 10) 4] _)
 unfold S.b45
 rw [← hC]
 have n0 := (t0.on (kap h [.arr C .tight, .arr [.bool false, .nils, .int .i64 0, .int .i64 0, .int .i64 0, .int .i64 0, .int .i64 0, .int .i64 0, .bool false, .nils] .tight])).len (by decide)
 simp [two0, e9, n0]
 refine W_loop (GiveInv1 h C hv held k) ?_ held.length ⟨0, .nils, by omega, by omega, rfl, kap _ _, by simp, by simp, OwnL.nil, by simp [CV.blk]⟩
 rintro m e h1 ⟨i, ov, hi, rfl, rfl, k1, g0, g1, ow, hov⟩
 by_cases hie : i = held.length
 ·subst hie
  rw [List.take_length] at ow
  simp
  have fin' := fin h1 ov k1 ow hov g0 g1
  simp [CV.cells_scalar ow.scalar, fits_scalar ow.scalar]
  obtain ⟨h4, e4, D, h5, q1, q2, q3, q4, q5, q6⟩ := fin'
  simp [e4, q1, q2, q3, q4]
  exact ⟨q5, q6⟩
 ·have hlt : i < held.length := by omega
  have hlt' : (i : Int) < held.length := by omega
  obtain ⟨b0, o0, x1, x2, x3⟩ := readI_idx (k' := .i64) (t0.on k1).ints hlt
  have hw : IntKind.i64.wrap ((i : Int) + 1) = ((i + 1 : Nat) : Int) := by rw [w64 (by omega) (by omega)]; omega
  by_cases he : held[i] = k
  ·simp [hlt', x1, x3, he, hw]
   refine ⟨held.length - (i + 1), by omega, i + 1, ov, by omega, rfl, rfl, k1, g0, g1, ?_, hov⟩
   rw [← List.take_append_getElem hlt, List.filter_append]
   simpa [he] using ow
  ·simp [hlt', x1, x3, he, hw, fillC, splice, spread, cellsAt]
   refine OV_push (e := .int .i64) (x := held[i]) (ow.on (kap _ _)) rfl (fun b hb => hb.elim) (filter_len hb) (by decide) ?_
   intro v' h2 o2 k2 hb2
   simp
   refine ⟨held.length - (i + 1), by omega, i + 1, v', by omega, rfl, rfl, (k1.trans (kap _ _)).then k2 fun b hb e => by have := hov b e; omega, k2.at (get_app g0) (fun e => by have := hov _ e; omega), k2.at (get_app g1) (fun e => by have := hov _ e; omega), ?_, fun b hb => ?_⟩
   ·rw [← List.take_append_getElem hlt, List.filter_append]
    simpa [he] using o2
   ·rcases hb2 b hb with q | q
    ·exact hov b q
    ·have := lt_of_get g1; simp at q; omega
end Go.Cl
