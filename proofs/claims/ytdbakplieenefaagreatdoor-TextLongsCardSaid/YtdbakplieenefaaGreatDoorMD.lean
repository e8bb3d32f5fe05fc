/-
  Texts laid together: ATextP ATextR ATextQ ATextC ATextD ATextE.
-/
import Derived.Test.YtdbakplieenefaaGreatDoorMC
import Derived.Test.YtdbakplieenefaaGreatDoorM8
import Derived.Test.YtdbakplieenefaaGreatDoorMA
import Derived.Test.YtdbakplieenefaaGreatDoorM9
namespace Go.Cl
open Go
set_option linter.unusedSimpArgs false
set_option linter.unusedVariables false
set_option maxHeartbeats 2000000
variable {p : PP}
theorem tOV_if {α : Type} {c : Prop} [Decidable c] {o : Option α} {K : α → Prop} : OV (if c then o else none) K = (c ∧ OV o K) := by
 by_cases h : c <;> simp [h]
theorem serveW_len (n : Int) : (serveW n).length ≤ 21 := by
 unfold serveW
 split
 ·simp
 ·exact itoa_len n
theorem opText_small {o : OpV} (h : opCheckP o = 0) : (opText o).length ≤ 352 := by
 have k := opOk h
 have hc : o.cases.length ≤ 4 := by
  by_cases k7 : o.kind = 7
  ·have := k.c7 k7
   unfold casesP at this
   split at this
   ·omega
   ·omega
  ·rw [k.c k7]; simp
 have := opWords_join (x := o)
 have h2 : (4 + 3 * o.cases.length) * 22 ≤ 16 * 22 := Nat.mul_le_mul_right _ (by omega)
 unfold opText
 split
 ·simp
 ·omega
theorem flat_lines : ∀ (l : List TaskV), (∀ t ∈ l, t.prog.length ≤ 48) → (l.flatMap taskLines).length ≤ l.length * 49
 | [], _ => by simp
 | t :: r, h => by
   have h1 := h t (by simp)
   have ih := flat_lines r fun u hu => h u (by simp [hu])
   simp only [List.flatMap_cons, List.length_append, taskLines, List.length_cons, List.length_map] at ih ⊢
   omega
theorem join3_le {a b c : List UInt8} : (joinC 32 [a, b, c]).length = a.length + b.length + c.length + 2 := by simp [joinC]; omega
theorem join5_le {a b c d e : List UInt8} : (joinC 32 [a, b, c, d, e]).length = a.length + b.length + c.length + d.length + e.length + 4 := by simp [joinC]; omega
theorem setLines_len {s : SetV} (ok : SetOk s) : (setLines s).length ≤ 600 ∧ ∀ w ∈ setLines s, w.length ≤ 400 := by
 have h1 := ok.c
 have h2 := ok.t1
 have ht : ∀ t ∈ s.tasks, nameP t.name = true ∧ t.prog.length ≤ 48 ∧ ∀ o ∈ t.prog, opCheckP o = 0 := fun t hm => by
  obtain ⟨i, hi⟩ := List.mem_iff_getElem?.1 hm
  have q := (taskOk (ok.ta i t hi)).1
  obtain ⟨a, b⟩ := progP_ok q.pr
  exact ⟨q.name, a, b⟩
 have h3 := flat_lines s.tasks fun t hm => (ht t hm).2.1
 refine ⟨by simp only [setLines, List.length_cons, List.length_append, List.length_map]; omega, fun w hw => ?_⟩
 unfold setLines at hw
 rcases List.mem_cons.1 hw with rfl | hw
 ·have := itoa_len s.locks
  simp [joinC, wLocks]; omega
 ·rcases List.mem_append.1 hw with hw | hw
  ·obtain ⟨c, _, rfl⟩ := List.mem_map.1 hw
   have a := itoa_len c.room
   have b := serveW_len c.server
   unfold chanW
   rw [join3_le]
   simp [wChan]; omega
  ·obtain ⟨t, hm, hw⟩ := List.mem_flatMap.1 hw
   obtain ⟨n1, n2, n3⟩ := ht t hm
   rcases List.mem_cons.1 hw with rfl | hw
   ·have a := itoa_len t.per
    have b := itoa_len t.dl
    have c := itoa_len t.bud
    have hn : t.name.length ≤ 8 := by
     simp only [nameP, Bool.and_eq_true, decide_eq_true_eq] at n1
     omega
    unfold taskW
    rw [join5_le]
    simp [wTask]; omega
   ·obtain ⟨o, ho, rfl⟩ := List.mem_map.1 hw
    have := opText_small (n3 o ho)
    omega
def locksW (s : SetV) : List UInt8 := joinC 32 [wLocks, itoa s.locks]
def PrA (b : Nat) (cv : CV) (s : SetV) (h : Heap) (m : Nat) (e : Env) (h' : Heap) : Prop :=
 ∃ (i : Nat) (acc : CV), i ≤ s.chans.length ∧ m = s.chans.length - i ∧ e = [(1, .ptr b 0), (6, acc), (27, cv), (28, .int .i64 s.chans.length), (29, .int .i64 i)] ∧ Keep NoneOf h h' ∧
  OwnL .str h' NoneOf acc (locksW s :: (s.chans.take i).map chanW) ∧ ∀ b, acc.blk = some b → h.length ≤ b
def PrB (tv : CV) (s : SetV) (h : Heap) (m : Nat) (e : Env) (h' : Heap) : Prop :=
 ∃ (j : Nat) (acc : CV), j ≤ s.tasks.length ∧ m = s.tasks.length - j ∧ e = [(6, acc), (47, tv), (48, .int .i64 s.tasks.length), (49, .int .i64 j)] ∧ Keep NoneOf h h' ∧
  OwnL .str h' NoneOf acc (locksW s :: (s.chans.map chanW ++ (s.tasks.take j).flatMap taskLines)) ∧ ∀ b, acc.blk = some b → h.length ≤ b
def PrC (tv pv : CV) (s : SetV) (j : Nat) (t : TaskV) (P0 : Nat → Prop) (h : Heap) (m : Nat) (e : Env) (h' : Heap) : Prop :=
 ∃ (k : Nat) (acc : CV), k ≤ t.prog.length ∧ m = t.prog.length - k ∧ e = [(6, acc), (47, tv), (48, .int .i64 s.tasks.length), (49, .int .i64 j), (70, pv), (71, .int .i64 t.prog.length), (72, .int .i64 k)] ∧ Keep NoneOf h h' ∧
  OwnL .str h' NoneOf acc ((locksW s :: (s.chans.map chanW ++ (s.tasks.take j).flatMap taskLines)) ++ (taskW t :: (t.prog.take k).map opText)) ∧ (∀ b, acc.blk = some b → h.length ≤ b) ∧ Sl opC h' P0 pv t.prog
theorem print_spec (lp : LP p) {h : Heap} {P : Nat → Prop} {s : SetV} {c : List CV} (rs : setC.rep h P c s) (hs : s.Sane) (hf : s.fine) :
  WF p 250 [.agg c] h fun r h' => r = .tup [.str (printP s).1, .int .i64 (printP s).2] ∧ Keep NoneOf h h' := by
 refine WF_of (by rw [lp.pg]; exact S.pg250) (lp.no ⟨rfl, rfl⟩) ?_
 show W p S.b250 _ _ (retQ [.t 2, .t 3] _)
 unfold S.b250
 have cl := setC.len rs
 have cl3 : setC.n = 3 := rfl
 have kap := Keep.app NoneOf h [.arr c .tight]
 have gS := get_new (h := h) (o := .arr c .tight)
 have lW := ldw gS cl
 rw [cl3] at lW
 have rs1 := setC.on rs kap
 obtain ⟨cv, tv, hc0, sc, st⟩ := rs
 have s0 : c[0]? = some (.int .i64 s.locks) := by subst hc0; rfl
 have s1 : c[1]? = some cv := by subst hc0; rfl
 have s2 : c[2]? = some tv := by subst hc0; rfl
 clear hc0
 have st := st.lt
 simp [lW]
 refine (setCheck_spec lp rs1 hs).mono ?_
 rintro r h1 ⟨rfl, k1⟩
 by_cases he : (setP s).2 = 0
 ·have hpr : printP s = (linesOf (setLines s), 0) := by unfold printP; rw [if_pos he]
  obtain ⟨_, ok⟩ := setOk he
  have hl0 := ok.l0
  have hl1 := ok.l1
  have hc8 := ok.c
  have ht12 := ok.t1
  have lS1 := ld (k1.at gS id)
  rw [hpr]
  simp [he, lS1, s0]
  refine (wordText_spec lp (by omega) (by omega)).mono ?_
  rintro r h2 ⟨rfl, rfl⟩
  have il := itoa_len s.locks
  have kc := kap.trans k1
  have sc2 := (sc.on kc).on (Keep.app NoneOf h2 [.arr [.str (locksW s)] .tight])
  have nc := sc2.len (by decide)
  have eL : 108 :: 111 :: 99 :: 107 :: 115 :: 32 :: itoa s.locks = locksW s := by simp [locksW, joinC, wLocks]
  have gS2 := k1.at gS id
  have lS2 := ld (get_app (g := [.arr [.str (locksW s)] .tight]) gS2)
  simp [tOV_if, eL]
  refine ⟨by omega, ?_⟩
  simp [fillC, splice, lS2, s1, nc]
  have ow0 : OwnL .str (h2 ++ [.arr [.str (locksW s)] .tight]) NoneOf (.sl h2.length 0 1 1) [locksW s] :=
   ⟨_, .inr ⟨h2.length, 1, .tight, rfl, rfl, .inl rfl, by simp⟩, rows_strs, fun b hb hn => hn⟩
  refine W_loop (PrA h.length cv s (h ++ [.arr c .tight])) ?_ s.chans.length ⟨0, .sl h2.length 0 1 1, by omega, by omega, rfl, k1.trans (Keep.app _ _ _), ow0, fun b hb => by simp [CV.blk] at hb; have := k1.len; omega⟩
  rintro m e h3 ⟨i, acc, hi, rfl, rfl, k3, ow, ha⟩
  by_cases hie : i = s.chans.length
  ·subst hie
   rw [List.take_length] at ow
   have gS3 := k3.at gS id
   have lS3 := ld gS3
   have st3 := (st.on kap).on k3
   have nt3 := st3.len (by decide)
   simp [lS3, s2, nt3]
   refine W_loop (PrB tv s (h ++ [.arr c .tight])) ?_ s.tasks.length ⟨0, acc, by omega, by omega, rfl, k3, by simpa using ow, ha⟩
   rintro m e h4 ⟨j, acc2, hj, rfl, rfl, k4, ow2, ha2⟩
   by_cases hje : j = s.tasks.length
   ·subst hje
    rw [List.take_length] at ow2
    have hfin : linesOf (setLines s) = joinC 10 (setLines s) ++ [10] := linesOf_join (by simp [setLines])
    have hsl : setLines s = locksW s :: (s.chans.map chanW ++ s.tasks.flatMap taskLines) := rfl
    rw [← hsl] at ow2
    rw [hfin]
    obtain ⟨z1, z2⟩ := setLines_len ok
    have z3 := joinC_le (c := 10) (n := 400) (setLines s) z2
    have z4 : (setLines s).length * 401 ≤ 600 * 401 := Nat.mul_le_mul_right _ z1
    simp
    refine (join_spec lp ow2.sl (c := 10) (by omega) (by omega)).mono ?_
    rintro r h5 ⟨rfl, rfl⟩
    simp [tOV_if]
    exact ⟨by omega, kap.trans k4⟩
   ·have hlt : j < s.tasks.length := by omega
    have hlt' : (j : Int) < s.tasks.length := by omega
    have hw : IntKind.i64.wrap ((j : Int) + 1) = ((j + 1 : Nat) : Int) := by rw [w64 (by omega) (by omega)]; omega
    obtain ⟨b0, o0, pv, x1, x2, x3, sp⟩ := taskRow ((st.on kap).on k4) hlt
    have tk := (taskOk (ok.ta j s.tasks[j] (List.getElem?_eq_getElem hlt))).1
    have st5 := store_new (h := h4) (row := tkL s.tasks[j] pv) (z := [.str [], .int .i64 0, .int .i64 0, .int .i64 0, .nils]) rfl (tkL_flat sp.scalar)
    have gT := get_new (h := h4) (o := .arr (tkL s.tasks[j] pv) .tight)
    have lT := ld gT
    have ff : fits (some 5) (.agg (tkL s.tasks[j] pv)) = true := rfl
    have t0 : (tkL s.tasks[j] pv)[0]? = some (.str s.tasks[j].name) := rfl
    have t1 : (tkL s.tasks[j] pv)[1]? = some (.int .i64 s.tasks[j].per) := rfl
    have t2 : (tkL s.tasks[j] pv)[2]? = some (.int .i64 s.tasks[j].dl) := rfl
    have t3 : (tkL s.tasks[j] pv)[3]? = some (.int .i64 s.tasks[j].bud) := rfl
    have t4 : (tkL s.tasks[j] pv)[4]? = some pv := rfl
    have tp0 := tk.p0; have tp1 := tk.p1; have td0 := tk.d0; have td1 := tk.d1; have tb0 := tk.b0; have tb1 := tk.b1
    simp [hlt', x1, x2, st5, ff, lT, t0, t1, t2, t3]
    refine WO_re_n ?_
    simp
    refine (wordText_spec lp (by omega) (by omega)).mono ?_
    rintro r h5 ⟨rfl, rfl⟩
    refine ⟨fun c' => by simp [recheckB, wanted, Env.get, cls, evOp, Opd.ev, withH, CV.eqb, lT, t0, t2, t3], ?_⟩
    refine WO_re_n ?_
    simp
    refine (wordText_spec lp (by omega) (by omega)).mono ?_
    rintro r h6 ⟨rfl, rfl⟩
    refine ⟨fun c' => by simp [recheckB, wanted, Env.get, cls, evOp, Opd.ev, withH, CV.eqb, lT, t0, t3], ?_⟩
    refine WO_re_n ?_
    simp
    refine (wordText_spec lp (by omega) (by omega)).mono ?_
    rintro r h7 ⟨rfl, rfl⟩
    refine ⟨fun c' => by simp [recheckB, wanted, Env.get, cls, evOp, Opd.ev, withH, CV.eqb, lT, t0], ?_⟩
    simp [fillC, splice]
    have hnl : s.tasks[j].name.length ≤ 8 := by
     have := tk.name
     simp only [nameP, Bool.and_eq_true, decide_eq_true_eq] at this
     omega
    have i1 := itoa_len s.tasks[j].per
    have i2 := itoa_len s.tasks[j].dl
    have i3 := itoa_len s.tasks[j].bud
    have hjl := join5_le (a := wTask) (b := s.tasks[j].name) (c := itoa s.tasks[j].per) (d := itoa s.tasks[j].dl) (e := itoa s.tasks[j].bud)
    have hwt : wTask.length = 4 := rfl
    have sl5 := Sl.fresh (e := .str) (h := h4 ++ [.arr (tkL s.tasks[j] pv) .tight]) (cells := [wTask, s.tasks[j].name, itoa s.tasks[j].per, itoa s.tasks[j].dl, itoa s.tasks[j].bud].map .str) (l := [wTask, s.tasks[j].name, itoa s.tasks[j].per, itoa s.tasks[j].dl, itoa s.tasks[j].bud]) (st := .tight) (n := 5) rows_strs rfl
    rw [List.append_assoc] at sl5
    have sl5' : Sl .str (h4 ++ [.arr (tkL s.tasks[j] pv) .tight, .arr [.str [116, 97, 115, 107], .str s.tasks[j].name, .str (itoa s.tasks[j].per), .str (itoa s.tasks[j].dl), .str (itoa s.tasks[j].bud)] .tight]) (From (h4 ++ [.arr (tkL s.tasks[j] pv) .tight])) (.sl (h4.length + 1) 0 5 5) [wTask, s.tasks[j].name, itoa s.tasks[j].per, itoa s.tasks[j].dl, itoa s.tasks[j].bud] := by
     have e : (h4 ++ [Obj.arr (tkL s.tasks[j] pv) St.tight]).length = h4.length + 1 := by simp
     rw [e] at sl5
     exact sl5
    refine (join_spec lp sl5' (c := 32) (by simp) (by omega)).mono ?_
    rintro r h8 ⟨rfl, rfl⟩
    rw [show joinC 32 [wTask, s.tasks[j].name, itoa s.tasks[j].per, itoa s.tasks[j].dl, itoa s.tasks[j].bud] = taskW s.tasks[j] from rfl]
    simp [spread, cellsAt]
    have hp48 : ∀ t ∈ s.tasks, t.prog.length ≤ 48 := fun t hm => by
     obtain ⟨i, hi⟩ := List.mem_iff_getElem?.1 hm
     exact (progP_ok (taskOk (ok.ta i t hi)).1.pr).1
    have hfl := flat_lines (s.tasks.take j) fun t ht => hp48 t (List.mem_of_mem_take ht)
    have htl : (s.tasks.take j).length ≤ 12 := by simp; omega
    generalize hF : (s.tasks.take j).flatMap taskLines = F at *
    have kap8 := Keep.app NoneOf h4 [.arr (tkL s.tasks[j] pv) .tight, .arr [.str [116, 97, 115, 107], .str s.tasks[j].name, .str (itoa s.tasks[j].per), .str (itoa s.tasks[j].dl), .str (itoa s.tasks[j].bud)] .tight, .arr [.str (taskW s.tasks[j])] .tight]
    have gT8 : (h4 ++ [.arr (tkL s.tasks[j] pv) .tight, .arr [.str [116, 97, 115, 107], .str s.tasks[j].name, .str (itoa s.tasks[j].per), .str (itoa s.tasks[j].dl), .str (itoa s.tasks[j].bud)] .tight, .arr [.str (taskW s.tasks[j])] .tight])[h4.length]? = some (.arr (tkL s.tasks[j] pv) .tight) := by simp
    have hl4 := k4.len
    refine OV_push (e := .str) (x := taskW s.tasks[j]) (ow2.on kap8) rfl (fun _ e => e.elim) (by simp only [List.length_cons, List.length_append, List.length_map, big]; omega) (by decide) ?_
    intro v9 h9 o9 k9 hb9
    have hblk : ∀ b, acc2.blk = some b → b < h4.length := fun b hb => ow2.blk b hb
    have lT9 := ld (k9.at gT8 fun e => by have := hblk _ e; omega)
    have K9 : Keep NoneOf (h ++ [.arr c .tight]) h9 := (k4.trans kap8).then k9 fun b hb e => by have := ha2 b e; omega
    have hb9' : ∀ b, v9.blk = some b → (h ++ [Obj.arr c .tight]).length ≤ b := fun b hb => by
     rcases hb9 b hb with g | g
     ·exact ha2 b g
     ·simp at g hl4 ⊢; omega
    have sp9 := (sp.on kap8).keep k9 fun b hb e => by have := ha2 b e; have := hb.2; simp at *; omega
    have n9 := sp9.len (by decide)
    simp [lT9, t4, n9]
    have htj := (taskOk (ok.ta j s.tasks[j] (List.getElem?_eq_getElem hlt))).1
    obtain ⟨p48, pok⟩ := progP_ok htj.pr
    refine W_loop (PrC tv pv s j s.tasks[j] (fun b => P b ∧ b < h.length) (h ++ [.arr c .tight])) ?_ s.tasks[j].prog.length ⟨0, v9, by omega, by omega, rfl, K9, by rw [hF]; simpa using o9, hb9', sp9⟩
    rintro m e h10 ⟨k, acc3, hk, rfl, rfl, k10, ow3, ha3, sp10⟩
    rw [hF] at ow3
    by_cases hkk : k = s.tasks[j].prog.length
    ·subst hkk
     rw [List.take_length] at ow3
     simp [hw]
     refine ⟨s.tasks.length - (j + 1), by omega, j + 1, acc3, by omega, rfl, rfl, k10, ?_, ha3⟩
     rw [← List.take_append_getElem hlt, List.flatMap_append, hF]
     simpa [taskLines] using ow3
    ·have hlk : k < s.tasks[j].prog.length := by omega
     have hlk' : (k : Int) < s.tasks[j].prog.length := by omega
     have hwk : IntKind.i64.wrap ((k : Int) + 1) = ((k + 1 : Nat) : Int) := by rw [w64 (by omega) (by omega)]; omega
     obtain ⟨b6, o6, row, y1, y2, y3, y4, y5, y6⟩ := opRow sp10 hlk
     have st6 := store_new (h := h10) (row := row) (z := [.int .i64 0, .int .i64 0, .int .i64 0, .int .i64 0, .nils]) y6 (opC.flat y5)
     have kap6 := Keep.app NoneOf h10 [.arr row .tight]
     have lR6 := ldw (get_new (h := h10) (o := .arr row .tight)) y6
     have ff6 : fits (some 5) (.agg row) = true := by simp [y6]
     simp [hlk', y1, y2, st6, ff6, lR6]
     refine (opText_spec lp (opC.on y5 kap6) ((opOk (pok _ (List.getElem_mem hlk))).In (hf _ (List.getElem_mem hlt) _ (List.getElem_mem hlk)))).mono ?_
     rintro r h11 ⟨rfl, k11⟩
     have K11 := kap6.trans (k11.trans (Keep.app NoneOf h11 [.arr [.str (opText s.tasks[j].prog[k])] .tight]))
     simp [fillC, splice, spread, cellsAt]
     have hk48 : (s.tasks[j].prog.take k).length ≤ 48 := by simp; omega
     refine OV_push (e := .str) (x := opText s.tasks[j].prog[k]) (ow3.on K11) rfl (fun _ e => e.elim) (by simp only [List.length_cons, List.length_append, List.length_map, big]; omega) (by decide) ?_
     intro v12 h12 o12 k12 hb12
     have hkl := K11.len
     simp [hwk]
     refine ⟨s.tasks[j].prog.length - (k + 1), by omega, k + 1, v12, by omega, rfl, rfl, (k10.trans K11).then k12 fun b hb e => by have := ha3 b e; omega, ?_, fun b hb => ?_, (sp10.on K11).keep k12 fun b hb e => by have := ha3 b e; have := hb.2; simp at *; omega⟩
     ·rw [hF, ← List.take_append_getElem hlk, List.map_append]
      simpa using o12
     ·rcases hb12 b hb with g | g
      ·exact ha3 b g
      ·have := k10.len; omega
  ·have hlt : i < s.chans.length := by omega
   have hlt' : (i : Int) < s.chans.length := by omega
   have hw : IntKind.i64.wrap ((i : Int) + 1) = ((i + 1 : Nat) : Int) := by rw [w64 (by omega) (by omega)]; omega
   obtain ⟨b0, o0, row, x1, x2, x3, x4⟩ := ((sc.on kap).on k3).row (k := .i64) (by decide) hlt
   have x4 : row = chL s.chans[i] := x4
   subst x4
   simp only [chanC] at x1 x2
   have st2 := store_new (h := h3) (row := chL s.chans[i]) (z := [.int .i64 0, .int .i64 0]) rfl rfl
   have gC := get_new (h := h3) (o := .arr (chL s.chans[i]) .tight)
   have lC := ld gC
   have kap3 := Keep.app NoneOf h3 [.arr (chL s.chans[i]) .tight]
   have ff : fits (some 2) (.agg (chL s.chans[i])) = true := rfl
   have q0 : (chL s.chans[i])[0]? = some (.int .i64 s.chans[i].room) := rfl
   have q1 : (chL s.chans[i])[1]? = some (.int .i64 s.chans[i].server) := rfl
   have hch := ok.ch _ (List.getElem_mem hlt)
   have ht1 := ok.t1
   have i1 := itoa_len s.chans[i].room
   have i2 := serveW_len s.chans[i].server
   have eC : 99 :: 104 :: 97 :: 110 :: 32 :: (itoa s.chans[i].room ++ 32 :: serveW s.chans[i].server) = chanW s.chans[i] := by simp [chanW, joinC, wChan]
   simp [hlt', x1, x2, st2, ff, lC, q0, q1]
   refine WO_re_n ?_
   simp
   refine (wordText_spec lp (by omega) (by omega)).mono ?_
   rintro r h4 ⟨rfl, rfl⟩
   refine ⟨fun c' => by simp [recheckB, wanted, Env.get, cls, evOp, Opd.ev, withH, CV.eqb, lC, q1], ?_⟩
   simp [tOV_if]
   refine ⟨by omega, by omega, ?_⟩
   refine (server_spec lp (by omega) (by omega)).mono ?_
   rintro r h5 ⟨rfl, rfl⟩
   simp [tOV_if, eC]
   refine ⟨by omega, ?_⟩
   simp [fillC, splice, spread, cellsAt]
   have kap4 := Keep.app NoneOf h3 [.arr (chL s.chans[i]) .tight, .arr [.str (chanW s.chans[i])] .tight]
   refine OV_push (e := .str) (x := chanW s.chans[i]) (ow.on kap4) rfl (fun _ e => e.elim) (by simp [big]; omega) (by decide) ?_
   intro v' h6 o6 k6 hb6
   simp [hw]
   refine ⟨s.chans.length - (i + 1), by omega, i + 1, v', by omega, rfl, rfl, (k3.trans kap4).then k6 fun b hb e => by have := ha b e; omega, ?_, fun b hb => ?_⟩
   ·rw [← List.take_append_getElem hlt, List.map_append]
    simpa using o6
   ·rcases hb6 b hb with g | g
    ·exact ha b g
    ·have := k3.len; simp at g; omega
 ·have hpr : printP s = ([], (setP s).2) := by unfold printP; rw [if_neg he]
  rw [hpr]
  simp [he]
  exact kap.trans k1
theorem linesOf_cat (a b : List (List UInt8)) : linesOf (a ++ b) = linesOf a ++ linesOf b := by simp [linesOf]
def IxI (v : CV) (l : List Wd) (w : Wd) (h : Heap) (m : Nat) (e : Env) (h' : Heap) : Prop :=
 ∃ i : Nat, i ≤ l.length ∧ m = l.length - i ∧ e = [(0, v), (1, .str w), (7, .int .i64 l.length), (8, .int .i64 i)] ∧ h' = h ∧ ∀ (j : Nat) (hj : j < l.length), j < i → l[j] ≠ w
theorem index_spec (lp : LP p) {h : Heap} {v : CV} {l : List Wd} {w : Wd} {P : Nat → Prop} (s : Sl .str h P v l) (hl : l.length ≤ 1000000) :
  WF p 291 [v, .str w] h fun r h' => h' = h ∧ ∃ n : Int, r = .int .i64 n ∧ (0 ≤ n ↔ w ∈ l) := by
 refine WF_of (by rw [lp.pg]; exact S.pg291) (lp.no ⟨rfl, rfl⟩) ?_
 show W p S.b291 _ _ (retQ [.t 4] _)
 unfold S.b291
 have n0 := s.len (by decide)
 simp [n0]
 refine W_loop (IxI v l w h) ?_ l.length ⟨0, by omega, by omega, rfl, rfl, fun j _ hj => by omega⟩
 rintro m e H ⟨i, hi, rfl, rfl, rfl, hno⟩
 by_cases hie : i = l.length
 ·subst hie
  simp
  intro hm
  obtain ⟨j, hj, rfl⟩ := List.mem_iff_getElem.1 hm
  exact absurd rfl (hno j hj hj)
 ·have hlt : i < l.length := by omega
  have hlt' : (i : Int) < l.length := by omega
  obtain ⟨b0, o0, x1, x2⟩ := s.word hlt
  have hat : at_ l i = l[i] := by simp [at_, List.getElem?_eq_getElem hlt]
  rw [hat] at x2
  have hw : IntKind.i64.wrap ((i : Int) + 1) = ((i + 1 : Nat) : Int) := by rw [w64 (by omega) (by omega)]; omega
  by_cases he : w = l[i]
  ·simp [hlt', x1, x2, ← he]
   rw [he]; exact List.getElem_mem hlt
  ·simp [hlt', x1, x2, he, hw]
   refine ⟨l.length - (i + 1), by omega, i + 1, by omega, rfl, rfl, rfl, fun j hj hji => ?_⟩
   by_cases hji' : j = i
   ·subst hji'; exact fun h => he h.symm
   ·exact hno j hj (by omega)
theorem contains_spec (lp : LP p) {h : Heap} {v : CV} {l : List Wd} {w : Wd} {P : Nat → Prop} (s : Sl .str h P v l) (hl : l.length ≤ 1000000) :
  WF p 278 [v, .str w] h fun r h' => h' = h ∧ r = .bool (decide (w ∈ l)) := by
 refine WF_of (by rw [lp.pg]; exact S.pg278) (lp.no ⟨rfl, rfl⟩) ?_
 show W p S.b278 _ _ (retQ [.t 4] _)
 unfold S.b278
 simp
 refine (index_spec lp s hl).mono ?_
 rintro r h1 ⟨rfl, n, rfl, hn⟩
 by_cases hm : w ∈ l
 ·have := hn.2 hm
  simp [hm, this]
 ·have : ¬ 0 ≤ n := fun h => hm (hn.1 h)
  simp [hm, this]
def opsL : List Wd := [wRun, wLock, wUnlock, wSend, wRecv, wClose, wSelect, wLoop, wEnd]
theorem opsL_kind (w : Wd) : w ∈ opsL ↔ kindOf w ≠ 0 := by
 unfold kindOf opsL
 repeat' split
 all_goals simp_all
theorem ops_spec (lp : LP p) {h : Heap} : WF p 277 [] h fun r h' => Keep NoneOf h h' ∧ Sl .str h' Any r opsL := by
 refine WF_of (by rw [lp.pg]; exact S.pg277) (lp.no ⟨rfl, rfl⟩) ?_
 show W p S.b277 _ _ (retQ [.t 0] _)
 unfold S.b277
 simp [fillC, splice]
 have := Sl.fresh (e := .str) (h := h) (cells := opsL.map .str) (l := opsL) (st := .tight) (n := 9) rows_strs rfl
 exact ⟨Keep.app _ _ _, this.mono fun _ _ => trivial⟩
def TkO (b : Nat) (cv tv : CV) (h : Heap) (cells : List CV) (l : List TaskV) : Prop :=
 (l = [] ∧ cells = []) ∨ ∃ (P : Nat → Prop) (init : List TaskV) (t : TaskV) (c0 : List CV) (pv : CV), l = init ++ [t] ∧ cells = c0 ++ tkL t pv ∧ Rows taskC h P c0 init ∧ OwnL opC h P pv t.prog ∧
  (∀ x, P x → b < x ∧ x < h.length ∧ cv.blk ≠ some x ∧ tv.blk ≠ some x) ∧ (∀ x, pv.blk = some x → b < x ∧ cv.blk ≠ some x ∧ tv.blk ≠ some x)
structure RsI (b : Nat) (s : SetV) (cv tv : CV) (cells : List CV) (h : Heap) : Prop where
 g : h[b]? = some (.arr [.int .i64 s.locks, cv, tv] .tight)
 oc : OwnL chanC h NoneOf cv s.chans
 mt : Mine h 5 tv cells
 la : TkO b cv tv h cells s.tasks
 bc : ∀ x, cv.blk = some x → b < x
 bt : ∀ x, tv.blk = some x → b < x ∧ cv.blk ≠ some x
def RsS (b : Nat) (s : SetV) (h : Heap) : Prop := ∃ cv tv cells, RsI b s cv tv cells h
theorem TkO.keep {b : Nat} {cv tv : CV} {h h' : Heap} {cells : List CV} {l : List TaskV} {S : Nat → Prop} (t : TkO b cv tv h cells l) (k : Keep S h h') (hS : ∀ x, b < x → x < h.length → cv.blk ≠ some x → tv.blk ≠ some x → ¬ S x) : TkO b cv tv h' cells l := by
 rcases t with t | ⟨P, init, t, c0, pv, e1, e2, rw, ow, hP, hp⟩
 ·exact .inl t
 ·refine .inr ⟨P, init, t, c0, pv, e1, e2, rw.keep k fun x hx => ?_, ow.keep k (fun x hx => ?_) fun x hx => ?_, fun x hx => ?_, hp⟩
  ·obtain ⟨a1, a2, a3, a4⟩ := hP x hx; exact hS x a1 a2 a3 a4
  ·obtain ⟨a1, a3, a4⟩ := hp x hx; exact hS x a1 (ow.blk x hx) a3 a4
  ·obtain ⟨a1, a2, a3, a4⟩ := hP x hx; exact hS x a1 a2 a3 a4
  ·obtain ⟨a1, a2, a3, a4⟩ := hP x hx; exact ⟨a1, Nat.lt_of_lt_of_le a2 k.len, a3, a4⟩
theorem RsI.on {b : Nat} {s : SetV} {cv tv : CV} {cells : List CV} {h h' : Heap} (r : RsI b s cv tv cells h) (k : Keep NoneOf h h') : RsI b s cv tv cells h' :=
 ⟨k.at r.g id, r.oc.on k, r.mt.keep k fun _ _ => id, r.la.keep k fun _ _ _ _ _ => id, r.bc, r.bt⟩
theorem RsS.on {b : Nat} {s : SetV} {h h' : Heap} (r : RsS b s h) (k : Keep NoneOf h h') : RsS b s h' := let ⟨cv, tv, cells, i⟩ := r; ⟨cv, tv, cells, i.on k⟩
theorem TkO.rows {b : Nat} {cv tv : CV} {h : Heap} {cells : List CV} {l : List TaskV} (t : TkO b cv tv h cells l) : Rows taskC h (fun x => b < x ∧ x < h.length ∧ cv.blk ≠ some x ∧ tv.blk ≠ some x) cells l := by
 rcases t with ⟨rfl, rfl⟩ | ⟨P, init, t, c0, pv, rfl, rfl, rw, ow, hP, hp⟩
 ·exact Rows.nil
 ·refine (rw.mono hP).append (Rows.one ⟨pv, rfl, ow.sl.mono fun x hx => ?_⟩)
  rcases hx with hx | hx
  ·exact hP x hx
  ·obtain ⟨a1, a3, a4⟩ := hp x hx
   exact ⟨a1, ow.blk x hx, a3, a4⟩
theorem RsI.tasks {b : Nat} {s : SetV} {cv tv : CV} {cells : List CV} {h : Heap} (r : RsI b s cv tv cells h) : Sl taskC h (fun x => b < x) tv s.tasks :=
 ⟨cells, r.mt.read, ⟨r.mt.ok, fun x hx => (r.bt x hx).1⟩, r.la.rows.mono fun x hx => hx.1⟩
theorem RsI.rep {b : Nat} {s : SetV} {cv tv : CV} {cells : List CV} {h : Heap} (r : RsI b s cv tv cells h) : setC.rep h (fun x => b < x) [.int .i64 s.locks, cv, tv] s :=
 ⟨cv, tv, rfl, r.oc.sl.mono fun x hx => hx.elim (fun h => h.elim) (r.bc x), r.tasks⟩
theorem RsI.locks {b : Nat} {s : SetV} {cv tv : CV} {cells : List CV} {h : Heap} (r : RsI b s cv tv cells h) (n : Int) : RsI b { s with locks := n } cv tv cells (h.set b (.arr [.int .i64 n, cv, tv] .tight)) := by
 have k : Keep (fun x => x = b) h (h.set b (.arr [.int .i64 n, cv, tv] .tight)) := Keep.set _ _ rfl
 exact ⟨get_set_self (lt_of_get r.g), r.oc.keep k (fun x hx e => by have := r.bc x hx; omega) (fun _ hx => hx.elim), r.mt.keep k fun x hx e => by have := (r.bt x hx).1; omega, r.la.keep k fun x hb _ _ _ e => by omega, r.bc, r.bt⟩
theorem txLocks_spec (lp : LP p) {b : Nat} {h : Heap} {s : SetV} {wv : CV} {w : List Wd} {P : Nat → Prop} (r : RsS b s h) (sw : Sl .str h P wv w) (hw : ∀ x ∈ w, x.length ≤ 1000000) :
  WF p 274 [.ptr b 0, wv] h fun r h' => r = .int .i64 (locksR s w).2 ∧ RsS b (locksR s w).1 h' ∧ Keep (fun x => b ≤ x) h h' := by
 refine WF_of (by rw [lp.pg]; exact S.pg274) (lp.no ⟨rfl, rfl⟩) ?_
 show W p S.b274 _ _ (retQ [.t 4] _)
 unfold S.b274
 have n0 := sw.len (by decide)
 unfold locksR
 by_cases h2 : w.length = 2
 ·rw [if_neg (by omega)]
  rw [h2] at n0
  obtain ⟨b0, o0, x1, x2⟩ := sw.word (i := 1) (by omega)
  have x1 : idxAddrV 1 wv (.int .i64 1) = some (.ptr b0 o0) := x1
  have hat : at_ w 1 ∈ w := by rw [at2 h2]; simp [at_]
  have hl := hw _ hat
  simp [n0, x1, x2]
  refine (count_spec lp (by omega)).mono ?_
  rintro r1 h1 ⟨rfl, k1⟩
  obtain ⟨cv, tv, cells, i⟩ := r
  have i1 := i.on k1
  have s1 := sto1 i1.g (o := 0) (v := .int .i64 (countW (at_ w 1)).1) (by simp) rfl
  have hset : ([.int .i64 s.locks, cv, tv] : List CV).set 0 (.int .i64 (countW (at_ w 1)).1) = [.int .i64 (countW (at_ w 1)).1, cv, tv] := rfl
  rw [hset] at s1
  simp [s1]
  exact ⟨⟨cv, tv, cells, i1.locks _⟩, (k1.mono fun _ _ h => h.elim).trans (Keep.set _ _ (Nat.le_refl b))⟩
 ·rw [if_pos h2]
  have h2' : ¬ (w.length : Int) = 2 := by omega
  simp [n0, h2, h2']
  exact ⟨r, Keep.refl _ _⟩
theorem TkO.cv {b : Nat} {cv v' tv : CV} {h h' : Heap} {cells : List CV} {l : List TaskV} (t : TkO b cv tv h cells l) (k : Keep (fun x => cv.blk = some x) h h') (hv : ∀ x, v'.blk = some x → cv.blk = some x ∨ h.length ≤ x) : TkO b v' tv h' cells l := by
 rcases t with t | ⟨P, init, t, c0, pv, e1, e2, rw, ow, hP, hp⟩
 ·exact .inl t
 ·refine .inr ⟨P, init, t, c0, pv, e1, e2, rw.keep k fun x hx => (hP x hx).2.2.1, ow.keep k (fun x hx => (hp x hx).2.1) fun x hx => (hP x hx).2.2.1, fun x hx => ?_, fun x hx => ?_⟩
  ·obtain ⟨a1, a2, a3, a4⟩ := hP x hx
   refine ⟨a1, Nat.lt_of_lt_of_le a2 k.len, fun e => ?_, a4⟩
   rcases hv x e with q | q
   ·exact a3 q
   ·omega
  ·obtain ⟨a1, a3, a4⟩ := hp x hx
   have := ow.blk x hx
   refine ⟨a1, fun e => ?_, a4⟩
   rcases hv x e with q | q
   ·exact a3 q
   ·omega
theorem RsI.chan {b : Nat} {s : SetV} {cv tv v' : CV} {cells : List CV} {h h' : Heap} {x : ChanV} (i : RsI b s cv tv cells h) (o : OwnL chanC h' NoneOf v' (s.chans ++ [x])) (k : Keep (fun x => cv.blk = some x) h h') (hv : ∀ x, v'.blk = some x → cv.blk = some x ∨ h.length ≤ x) :
  RsI b { s with chans := s.chans ++ [x] } v' tv cells (h'.set b (.arr [.int .i64 s.locks, v', tv] .tight)) := by
 have hbl := lt_of_get i.g
 have g' := k.at i.g fun e => by have := i.bc b e; omega
 have bc' : ∀ x, v'.blk = some x → b < x := fun x hx => by
  rcases hv x hx with q | q
  ·exact i.bc x q
  ·omega
 have ke : Keep (fun x => x = b) h' (h'.set b (.arr [.int .i64 s.locks, v', tv] .tight)) := Keep.set _ _ rfl
 have mt' := i.mt.keep k fun x hx => (i.bt x hx).2
 refine ⟨get_set_self (lt_of_get g'), o.keep ke (fun x hx e => by have := bc' x hx; omega) (fun _ hx => hx.elim), mt'.keep ke fun x hx e => by have := (i.bt x hx).1; omega, (i.la.cv k hv).keep ke fun x hb _ _ _ e => by omega, bc', fun x hx => ⟨(i.bt x hx).1, fun e => ?_⟩⟩
 rcases hv x e with q | q
 ·exact (i.bt x hx).2 q
 ·have := i.mt.read.blk_lt x hx; omega
theorem channel_spec (lp : LP p) {b : Nat} {h : Heap} {s : SetV} {wv : CV} {w : List Wd} {P : Nat → Prop} (r : RsS b s h) (sw : Sl .str h P wv w) (hw : ∀ x ∈ w, x.length ≤ 1000000) (hc : s.chans.length ≤ 1000000) :
  WF p 275 [.ptr b 0, wv] h fun r h' => r = .int .i64 (chanR s w).2 ∧ RsS b (chanR s w).1 h' ∧ Keep (fun x => b ≤ x) h h' := by
 refine WF_of (by rw [lp.pg]; exact S.pg275) (lp.no ⟨rfl, rfl⟩) ?_
 show W p S.b275 _ _ (retQ [.t 4] _)
 unfold S.b275
 have n0 := sw.len (by decide)
 have hr := r
 obtain ⟨cv, tv, cells, i⟩ := r
 have nc := i.oc.sl.len (by decide)
 have lS := ld i.g
 by_cases h8 : s.chans.length = 8
 ·have hR : chanR s w = (s, 4) := by unfold chanR; rw [if_pos h8]
  rw [h8] at nc
  rw [hR]
  simp [lS, nc, h8]
  exact ⟨hr, Keep.refl _ _⟩
 have h8' : ¬ (s.chans.length : Int) = 8 := by omega
 by_cases h3 : w.length = 3
 ·have hR : chanR s w = if (countW (at_ w 1)).2 ≠ 0 then (s, (countW (at_ w 1)).2) else ({ s with chans := s.chans ++ [⟨(countW (at_ w 1)).1, (servesR (at_ w 2)).1⟩] }, (servesR (at_ w 2)).2) := by
   unfold chanR; rw [if_neg h8, if_neg (by omega)]
  rw [h3] at n0
  obtain ⟨b1, o1, x1, x2⟩ := sw.word (i := 1) (by omega)
  have x1 : idxAddrV 1 wv (.int .i64 1) = some (.ptr b1 o1) := x1
  have hm1 : at_ w 1 ∈ w := by rw [at3 h3]; simp [at_]
  have hm2 : at_ w 2 ∈ w := by rw [at3 h3]; simp [at_]
  have hl1 := hw _ hm1
  have hl2 := hw _ hm2
  simp [lS, nc, h8, h8', n0, x1, x2]
  refine (count_spec lp (by omega)).mono ?_
  rintro r1 h1 ⟨rfl, k1⟩
  obtain ⟨b2, o2, y1, y2⟩ := (sw.on k1).word (i := 2) (by omega)
  have y1 : idxAddrV 1 wv (.int .i64 2) = some (.ptr b2 o2) := y1
  generalize countW (at_ w 1) = C at *
  obtain ⟨room, e1⟩ := C
  simp only [] at hR ⊢
  by_cases he : e1 = 0
  ·subst he
   rw [if_neg (by simp)] at hR
   simp [y1, y2]
   refine (serves_spec lp (by omega)).mono ?_
   rintro r2 h2 ⟨rfl, k2⟩
   generalize servesR (at_ w 2) = D at *
   obtain ⟨who, e2⟩ := D
   simp only [] at hR ⊢
   rw [hR]
   have i2 := (i.on k1).on k2
   have kap : Keep NoneOf h2 (h2 ++ [.arr (chL ⟨room, who⟩) .tight]) := Keep.app _ _ _
   have i3 := i2.on kap
   have lS2 := ld i2.g
   have f2 : fillC [.int .i64 0, .int .i64 0] [(0, 1, .int .i64 room), (1, 1, .int .i64 who)] = some (chL ⟨room, who⟩) := rfl
   have f3 : fillC [.int .i64 0, .int .i64 0] [(0, 2, .agg (chL ⟨room, who⟩))] = some (chL ⟨room, who⟩) := rfl
   have htl : (chL ⟨room, who⟩).length = 2 := rfl
   have htt : List.take 2 (chL ⟨room, who⟩) = chL ⟨room, who⟩ := rfl
   simp [lS2, f2, f3, spread, cellsAt, htl, htt]
   refine OV_push (e := chanC) (x := ⟨room, who⟩) i3.oc rfl (fun _ hb => hb.elim) (by simp [big]; omega) (by decide) ?_
   intro v' H3 o3 k3 hb3
   have g3 := k3.at i3.g fun e => by have := i3.bc b e; omega
   have hsc := o3.scalar
   have s3 := sto1 g3 (o := 1) (v := v') (by simp) hsc
   have hset : ([.int .i64 s.locks, cv, tv] : List CV).set 1 v' = [.int .i64 s.locks, v', tv] := rfl
   rw [hset] at s3
   have fs := fits_scalar hsc
   have cs := CV.cells_scalar hsc
   simp [fs, cs, s3]
   refine ⟨⟨v', tv, cells, i3.chan o3 k3 hb3⟩, ?_⟩
   have kk : Keep (fun x => b ≤ x) h2 H3 := (kap.mono fun _ _ h => h.elim).then k3 fun x hx e => by have := i3.bc x e; omega
   exact (((k1.trans k2).mono fun _ _ h => h.elim).trans kk).trans (Keep.set _ _ (Nat.le_refl b))
  ·rw [if_pos he] at hR
   rw [hR]
   simp [he]
   exact ⟨⟨cv, tv, cells, i.on k1⟩, k1.mono fun _ _ h => h.elim⟩
 ·have hR : chanR s w = (s, 2) := by unfold chanR; rw [if_neg h8, if_pos h3]
  rw [hR]
  have h3' : ¬ (w.length : Int) = 3 := by omega
  simp [lS, nc, h8, h8', n0, h3, h3']
  exact ⟨hr, Keep.refl _ _⟩
theorem RsI.task {b : Nat} {s : SetV} {cv tv v' : CV} {cells : List CV} {h h' : Heap} {t : TaskV} (ht : t.prog = []) (i : RsI b s cv tv cells h) (m : Mine h' 5 v' (cells ++ tkL t .nils)) (k : Keep (fun x => tv.blk = some x) h h') (hv : ∀ x, v'.blk = some x → tv.blk = some x ∨ h.length ≤ x) :
  RsI b { s with tasks := s.tasks ++ [t] } cv v' (cells ++ tkL t .nils) (h'.set b (.arr [.int .i64 s.locks, cv, v'] .tight)) := by
 have hbl := lt_of_get i.g
 have g' := k.at i.g fun e => by have := (i.bt b e).1; omega
 have bt' : ∀ x, v'.blk = some x → b < x ∧ cv.blk ≠ some x := fun x hx => by
  rcases hv x hx with q | q
  ·exact i.bt x q
  ·exact ⟨by omega, fun e => by have := i.oc.blk x e; omega⟩
 have ke : Keep (fun x => x = b) h' (h'.set b (.arr [.int .i64 s.locks, cv, v'] .tight)) := Keep.set _ _ rfl
 have oc' := i.oc.keep k (fun x hx e => (i.bt x e).2 hx) fun _ hx => hx.elim
 have rr := i.la.rows.keep k fun x hx => hx.2.2.2
 refine ⟨get_set_self (lt_of_get g'), oc'.keep ke (fun x hx e => by have := i.bc x hx; omega) (fun _ hx => hx.elim), m.keep ke fun x hx e => by have := (bt' x hx).1; omega, ?_, i.bc, bt'⟩
 refine TkO.keep (S := fun x => x = b) (h := h') (.inr ⟨fun x => b < x ∧ x < h.length ∧ cv.blk ≠ some x ∧ tv.blk ≠ some x, s.tasks, t, cells, .nils, rfl, rfl, rr, by rw [ht]; exact OwnL.nil, fun x hx => ⟨hx.1, Nat.lt_of_lt_of_le hx.2.1 k.len, hx.2.2.1, fun e => ?_⟩, by simp [CV.blk]⟩) ke fun x hb _ _ _ e => by omega
 rcases hv x e with q | q
 ·exact hx.2.2.2 q
 ·omega
def nums (w : List Wd) (k : Nat) : List Int := [if 0 < k then (numP (at_ w 2)).1 else 0, if 1 < k then (numP (at_ w 3)).1 else 0, if 2 < k then (numP (at_ w 4)).1 else 0]
def TkI (b : Nat) (wv : CV) (w : List Wd) (h : Heap) (m : Nat) (e : Env) (h' : Heap) : Prop :=
 ∃ k : Nat, k ≤ 3 ∧ m = 3 - k ∧ e = [(0, .ptr b 0), (1, wv), (5, .ptr h.length 0), (19, .int .i64 k)] ∧ Keep NoneOf h h' ∧ h'[h.length]? = some (.arr (ints .i64 (nums w k)) .tight) ∧ ∀ j : Nat, j < k → (numP (at_ w (2 + j))).2 = 0
theorem taskLine_spec (lp : LP p) {b : Nat} {h : Heap} {s : SetV} {wv : CV} {w : List Wd} {P : Nat → Prop} (r : RsS b s h) (sw : Sl .str h P wv w) (hw : ∀ x ∈ w, x.length ≤ 1000000) (hc : s.tasks.length ≤ 1000000) :
  WF p 276 [.ptr b 0, wv] h fun r h' => r = .int .i64 (taskR s w).2 ∧ RsS b (taskR s w).1 h' ∧ Keep (fun x => b ≤ x) h h' := by
 refine WF_of (by rw [lp.pg]; exact S.pg276) (lp.no ⟨rfl, rfl⟩) ?_
 show W p S.b276 _ _ (retQ [.t 4] _)
 unfold S.b276
 have n0 := sw.len (by decide)
 have hr := r
 obtain ⟨cv, tv, cells, i⟩ := r
 have nc := i.tasks.len (by decide)
 have lS := ld i.g
 by_cases h12 : s.tasks.length = 12
 ·have hR : taskR s w = (s, 4) := by unfold taskR; rw [if_pos h12]
  rw [h12] at nc
  rw [hR]
  simp [lS, nc, h12]
  exact ⟨hr, Keep.refl _ _⟩
 have h12' : ¬ (s.tasks.length : Int) = 12 := by omega
 by_cases h5 : w.length = 5
 ·have hR : taskR s w = if (numP (at_ w 2)).2 ≠ 0 then (s, (numP (at_ w 2)).2) else if (numP (at_ w 3)).2 ≠ 0 then (s, (numP (at_ w 3)).2) else if (numP (at_ w 4)).2 ≠ 0 then (s, (numP (at_ w 4)).2)
    else ({ s with tasks := s.tasks ++ [⟨at_ w 1, (numP (at_ w 2)).1, (numP (at_ w 3)).1, (numP (at_ w 4)).1, []⟩] }, 0) := by
   unfold taskR; rw [if_neg h12, if_neg (by omega)]
  rw [h5] at n0
  simp [lS, nc, h12, h12', n0]
  have ki : Keep NoneOf h (h ++ [.arr [.int .i64 0, .int .i64 0, .int .i64 0] .tight]) := Keep.app _ _ _
  refine W_loop (TkI b wv w h) ?_ 3 ⟨0, by omega, by omega, rfl, ki, by simp [ints, nums], fun j hj => by omega⟩
  rintro m e H ⟨k, hk, rfl, rfl, k1, g1, hz⟩
  by_cases hk3 : k = 3
  ·subst hk3
   have z0 := hz 0 (by omega)
   have z1 := hz 1 (by omega)
   have z2 := hz 2 (by omega)
   simp only [Nat.add_zero] at z0 z1 z2
   rw [if_neg (by simp [z0]), if_neg (by simp [z1]), if_neg (by simp [z2])] at hR
   rw [hR]
   have i1 := i.on k1
   have lS1 := ld i1.g
   have lA := ld g1
   have nu : nums w 3 = [(numP (at_ w 2)).1, (numP (at_ w 3)).1, (numP (at_ w 4)).1] := rfl
   rw [nu] at lA
   obtain ⟨b1, o1, x1, x2⟩ := (sw.on k1).word (i := 1) (by omega)
   have x1 : idxAddrV 1 wv (.int .i64 1) = some (.ptr b1 o1) := x1
   generalize numP (at_ w 2) = N2 at *
   generalize numP (at_ w 3) = N3 at *
   generalize numP (at_ w 4) = N4 at *
   generalize at_ w 1 = nm at *
   have f2 : fillC [.str [], .int .i64 0, .int .i64 0, .int .i64 0, .nils] [(0, 1, .str nm), (1, 1, .int .i64 N2.1), (2, 1, .int .i64 N3.1), (3, 1, .int .i64 N4.1)] = some (tkL ⟨nm, N2.1, N3.1, N4.1, []⟩ .nils) := rfl
   have f3 : fillC [.str [], .int .i64 0, .int .i64 0, .int .i64 0, .nils] [(0, 5, .agg (tkL ⟨nm, N2.1, N3.1, N4.1, []⟩ .nils))] = some (tkL ⟨nm, N2.1, N3.1, N4.1, []⟩ .nils) := rfl
   have htl : (tkL ⟨nm, N2.1, N3.1, N4.1, []⟩ .nils).length = 5 := rfl
   have htt : List.take 5 (tkL ⟨nm, N2.1, N3.1, N4.1, []⟩ .nils) = tkL ⟨nm, N2.1, N3.1, N4.1, []⟩ .nils := rfl
   simp [lS1, lA, ints, x1, x2, f2, f3, spread, cellsAt, htl, htt]
   have hcl : cells.length = s.tasks.length * 5 := i.la.rows.1
   refine OV_more (n := s.tasks.length) ((i1.on (Keep.app NoneOf H [.arr (tkL ⟨nm, N2.1, N3.1, N4.1, []⟩ .nils) .tight])).mt) hcl htl (tkL_flat rfl) (by simp [big]; omega) (by simp [big]) (by decide) ?_
   intro v' H3 m3 k3 hb3
   have i2 := i1.on (Keep.app NoneOf H [.arr (tkL ⟨nm, N2.1, N3.1, N4.1, []⟩ .nils) .tight])
   have g3 := k3.at i2.g fun e => by have := (i2.bt b e).1; omega
   have hsc : v'.scalar = true := m3.read.scalar
   have s3 := sto1 g3 (o := 2) (v := v') (by simp) hsc
   have hset : ([.int .i64 s.locks, cv, tv] : List CV).set 2 v' = [.int .i64 s.locks, cv, v'] := rfl
   rw [hset] at s3
   have fs := fits_scalar hsc
   have cs := CV.cells_scalar hsc
   simp [fs, cs, s3]
   refine ⟨⟨cv, v', _, i2.task rfl m3 k3 hb3⟩, ?_⟩
   have kk : Keep (fun x => b ≤ x) H H3 := ((Keep.app NoneOf H [.arr (tkL ⟨nm, N2.1, N3.1, N4.1, []⟩ .nils) .tight]).mono fun _ _ h => h.elim).then k3 fun x hx e => by have := (i2.bt x e).1; omega
   exact ((k1.mono fun _ _ h => h.elim).trans kk).trans (Keep.set _ _ (Nat.le_refl b))
  ·have hlt : k < 3 := by omega
   have hlt' : (k : Int) < 3 := by omega
   have hw1 : IntKind.i64.wrap ((k : Int) + 1) = ((k + 1 : Nat) : Int) := by rw [w64 (by omega) (by omega)]; omega
   have hw2 : IntKind.i64.wrap (2 + (k : Int)) = ((2 + k : Nat) : Int) := by rw [w64 (by omega) (by omega)]; omega
   obtain ⟨b1, o1, x1, x2⟩ := (sw.on k1).word (i := 2 + k) (by omega)
   have x1 : idxAddrV 1 wv (.int .i64 (2 + (k : Int))) = some (.ptr b1 o1) := x1
   have hin : at_ w (2 + k) ∈ w := by rw [show at_ w (2 + k) = w[2 + k] from by simp [at_, List.getElem?_eq_getElem (show 2 + k < w.length by omega)]]; exact List.getElem_mem _
   have hll := hw _ hin
   simp [hlt', hw2, x1, x2]
   refine (wordNumber_spec lp (by omega)).mono ?_
   rintro r2 h2 ⟨rfl, k2⟩
   have g2 := k2.at g1 id
   by_cases he : (numP (at_ w (2 + k))).2 = 0
   ·have st := sto1 g2 (o := k) (v := .int .i64 (numP (at_ w (2 + k))).1) (by simp [ints, nums]; omega) rfl
    have hnx : (ints .i64 (nums w k)).set k (.int .i64 (numP (at_ w (2 + k))).1) = ints .i64 (nums w (k + 1)) := by
     rcases (by omega : k = 0 ∨ k = 1 ∨ k = 2) with rfl | rfl | rfl <;> rfl
    rw [hnx] at st
    simp [he, hlt, hlt', st, hw1]
    exact ⟨3 - (k + 1), by omega, k + 1, by omega, rfl, rfl, (k1.trans k2).then (Keep.set (S := fun x => x = h.length) _ _ rfl) fun x hx e => by omega, get_set_self (lt_of_get g2), fun j hj => by
     by_cases hjk : j = k
     ·rw [hjk]; exact he
     ·exact hz j (by omega)⟩
   ·have hR2 : taskR s w = (s, (numP (at_ w (2 + k))).2) := by
     rw [hR]
     have z0 := fun h => hz 0 h
     have z1 := fun h => hz 1 h
     simp only [Nat.add_zero] at z0 z1
     rcases (by omega : k = 0 ∨ k = 1 ∨ k = 2) with rfl | rfl | rfl
     ·rw [if_pos he]
     ·rw [if_neg (by simp [z0 (by omega)]), if_pos he]
     ·rw [if_neg (by simp [z0 (by omega)]), if_neg (by simp [z1 (by omega)]), if_pos he]
    rw [hR2]
    simp [he]
    exact ⟨⟨cv, tv, cells, (i.on k1).on k2⟩, (k1.trans k2).mono fun _ _ h => h.elim⟩
 ·have hR : taskR s w = (s, 2) := by unfold taskR; rw [if_neg h12, if_pos h5]
  rw [hR]
  have h5' : ¬ (w.length : Int) = 5 := by omega
  simp [lS, nc, h12, h12', n0, h5, h5']
  exact ⟨hr, Keep.refl _ _⟩
theorem lastLen_snoc (l : List TaskV) (t : TaskV) : lastLen (l ++ [t]) = t.prog.length := by
 induction l with
 | nil => rfl
 | cons u r ih => cases r with
   | nil => rfl
   | cons v q => exact ih
theorem addOp_snoc (o : OpV) (l : List TaskV) (t : TaskV) : addOp o (l ++ [t]) = l ++ [{ t with prog := t.prog ++ [o] }] := by
 induction l with
 | nil => rfl
 | cons u r ih => cases r with
   | nil => rfl
   | cons v q => show u :: addOp o (v :: q ++ [t]) = _; rw [ih]; rfl
structure LaI (b : Nat) (cv : CV) (h : Heap) (P : Nat → Prop) (init : List TaskV) (t : TaskV) (c0 : List CV) (pv : CV) (tb : Nat) (st : St) : Prop where
 g : h[tb]? = some (.arr (c0 ++ tkL t pv) st)
 hst : st = .tight ∨ st = .loose 5
 len : c0.length = init.length * 5
 rw : Rows taskC h P c0 init
 ow : OwnL opC h P pv t.prog
 hP : ∀ x, P x → b < x ∧ x < h.length ∧ cv.blk ≠ some x ∧ tb ≠ x
 hp : ∀ x, pv.blk = some x → b < x ∧ cv.blk ≠ some x ∧ tb ≠ x
theorem RsI.last {b : Nat} {s : SetV} {cv tv : CV} {cells : List CV} {h : Heap} (i : RsI b s cv tv cells h) (hn : s.tasks ≠ []) : ∃ P init t c0 pv tb st, s.tasks = init ++ [t] ∧ cells = c0 ++ tkL t pv ∧ tv = .sl tb 0 (init.length + 1) (init.length + 1) ∧ LaI b cv h P init t c0 pv tb st := by
 rcases i.la with ⟨e, _⟩ | ⟨P, init, t, c0, pv, e1, e2, rw, ow, hP, hp⟩
 ·exact absurd e hn
 ·have hl : c0.length = init.length * 5 := rw.1
  rcases i.mt with ⟨_, e⟩ | ⟨tb, n, st, rfl, hlen, hst, hg⟩
  ·rw [e2] at e; simp [tkL] at e
  ·have h5 : (tkL t pv).length = 5 := rfl
   have hn' : n = init.length + 1 := by rw [e2, List.length_append, hl, h5] at hlen; omega
   subst hn'
   rw [e2] at hg
   refine ⟨P, init, t, c0, pv, tb, st, e1, e2, rfl, hg, hst, hl, rw, ow, fun x hx => ?_, fun x hx => ?_⟩
   ·obtain ⟨a1, a2, a3, a4⟩ := hP x hx
    exact ⟨a1, a2, a3, fun e => a4 (by rw [e]; rfl)⟩
   ·obtain ⟨a1, a3, a4⟩ := hp x hx
    exact ⟨a1, a3, fun e => a4 (by rw [e]; rfl)⟩
theorem LaI.on {b : Nat} {cv : CV} {h h' : Heap} {P : Nat → Prop} {init : List TaskV} {t : TaskV} {c0 : List CV} {pv : CV} {tb : Nat} {st : St} (a : LaI b cv h P init t c0 pv tb st) (k : Keep NoneOf h h') : LaI b cv h' P init t c0 pv tb st :=
 ⟨k.at a.g id, a.hst, a.len, a.rw.keep k fun _ _ => id, a.ow.on k, fun x hx => by have q := a.hP x hx; have := k.len; exact ⟨q.1, by omega, q.2.2.1, q.2.2.2⟩, a.hp⟩
theorem fill5 {z0 z1 z2 z3 z4 : CV} {row : List CV} (h : row.length = 5) : fillC [z0, z1, z2, z3, z4] [(0, 5, .agg row)] = some row := by
 have e : (CV.agg row).cells = row := rfl
 simp [fillC, splice, e, h]
theorem sto_last {h : Heap} {tb n : Nat} {c0 : List CV} {t t' : TaskV} {pv v' : CV} {st : St} (g : h[tb]? = some (.arr (c0 ++ tkL t pv) st)) (hst : st = .tight ∨ st = .loose 5) (hl : c0.length = n) (hv : v'.scalar = true) (ht : t' = { t with prog := t'.prog }) :
  storeAt h tb (n + 4) [v'] = some (h.set tb (.arr (c0 ++ tkL t' v') st)) := by
 have hs : splice (c0 ++ tkL t pv) (n + 4) [v'] = c0 ++ tkL t' v' := by
  rw [splice_set (by simp [tkL]; omega), List.set_append_right _ _ (by omega), hl, Nat.add_sub_cancel_left, ht]
  rfl
 have hro : st ≠ .ro := by rcases hst with rfl | rfl <;> simp
 have hll : n + 4 + 1 ≤ (c0 ++ tkL t pv).length := by simp [tkL]; omega
 simp only [storeAt, g, hs]
 rw [if_pos ⟨hro, hll, by simp [hv]⟩]
theorem txStep_spec (lp : LP p) {b : Nat} {h : Heap} {s : SetV} {line : List UInt8} (r : RsS b s h) (hn : s.tasks ≠ []) (hw : line.length ≤ 100000) (hc : s.tasks.length ≤ 1000000) (hq : lastLen s.tasks ≤ 1000000) :
  WF p 279 [.ptr b 0, .str line] h fun r h' => r = .int .i64 (stepR s line).2 ∧ RsS b (stepR s line).1 h' ∧ Keep (fun x => b ≤ x) h h' := by
 refine WF_of (by rw [lp.pg]; exact S.pg279) (lp.no ⟨rfl, rfl⟩) ?_
 show W p S.b279 _ _ (retQ [.t 4] _)
 unfold S.b279
 have hr := r
 obtain ⟨cv, tv, cells, i⟩ := r
 obtain ⟨P, init, t, c0, pv, tb, st, e1, e2, e3, la⟩ := i.last hn
 have lS := ld i.g
 have lT := ld la.g
 have hlen := la.len
 have h4 : (c0 ++ tkL t pv)[init.length * 5 + 4]? = some pv := by rw [List.getElem?_append_right (by omega), hlen, Nat.add_sub_cancel_left]; rfl
 have np := la.ow.sl.len (by decide)
 rw [e1, List.length_append] at hc
 rw [e1, lastLen_snoc] at hq
 simp only [List.length_cons, List.length_nil] at hc
 have hw1 : IntKind.i64.wrap (init.length : Int) = (init.length : Int) := w64 (by omega) (by omega)
 have hx : idxAddrV 5 (.sl tb 0 (init.length + 1) (init.length + 1)) (.int .i64 (init.length : Int)) = some (.ptr tb (init.length * 5)) := by
  rw [idxAddrV_sl, if_pos ⟨by omega, by omega⟩]; simp
 have hSR : stepR s line = if t.prog.length = 48 then (s, 4) else ({ s with tasks := init ++ [{ t with prog := t.prog ++ [(parseP line).1] }] }, (parseP line).2) := by
  unfold stepR; rw [e1, lastLen_snoc, addOp_snoc]
 have nt : lenV h .sl tv = some (.int .i64 ((init.length + 1 : Nat) : Int)) := by rw [e3]; rfl
 rw [← e3] at hx
 by_cases h48 : t.prog.length = 48
 ·rw [if_pos h48] at hSR
  rw [hSR]
  rw [h48] at np
  simp [lS, nt, hw1, hx, lT, h4, np]
  exact ⟨hr, Keep.refl _ _⟩
 ·rw [if_neg h48] at hSR
  have h48' : ¬ (t.prog.length : Int) = 48 := by omega
  rw [hSR]
  simp [lS, nt, hw1, hx, lT, h4, np, h48, h48']
  refine (opParse_spec lp hw).mono ?_
  rintro r h1 ⟨⟨row, rfl, rr⟩, k1⟩
  generalize parseP line = O at *
  obtain ⟨o, e⟩ := O
  simp only [] at rr ⊢
  have hr5 : row.length = 5 := opC.len rr
  have hrf := opC.flat rr
  have st6 := store_new (h := h1) (row := row) (z := [.int .i64 0, .int .i64 0, .int .i64 0, .int .i64 0, .nils]) hr5 hrf
  have kap1 := Keep.app NoneOf h1 [.arr row .tight]
  have kap2 := Keep.app NoneOf h1 [.arr row .tight, .arr row .tight]
  have gR := get_new (h := h1) (o := .arr row .tight)
  have lR := ldw gR hr5
  have ff : fits (some 5) (.agg row) = true := by simp [hr5]
  have la2 := (la.on k1).on kap2
  have la1 := (la.on k1).on kap1
  have lT1 := ld la1.g
  have htt : row.take 5 = row := List.take_of_length_le (by omega)
  simp [st6, ff, lR, lT1, h4, fill5 hr5, spread, cellsAt, hr5, htt]
  have hno : ∀ x, pv.blk = some x → ¬ P x := by obtain ⟨_, _, _, q⟩ := la.ow; exact q
  have kk := k1.trans kap2
  have hkl := kk.len
  refine OV_push (e := opC) (P := fun x => P x ∨ (h.length ≤ x ∧ x < (h1 ++ [Obj.arr row .tight, .arr row .tight]).length)) (x := o) (la2.ow.mono (fun x hx => .inl hx) fun x hx hq => ?_) (opC.mono (opC.lt (opC.on rr kap2)) fun x hx => .inr hx) (fun x hx => ?_) (by simp [big]; omega) (by decide) ?_
  ·rcases hq with hq | hq
   ·exact hno x hx hq
   ·have := la.ow.blk x hx; omega
  ·rcases hx with hx | hx
   ·exact (la2.hP x hx).2.1
   ·exact hx.2
  ·intro v' H3 o3 k3 hb3
   have hbl := lt_of_get i.g
   have htl := lt_of_get la.g
   have hbt : b < tb ∧ cv.blk ≠ some tb := i.bt tb (by rw [e3]; rfl)
   have i2 := (i.on k1).on kap2
   have gb := k3.at i2.g fun e => by have := (la.hp b e).1; omega
   have gt := k3.at la2.g fun e => (la.hp tb e).2.2 rfl
   have hsc := o3.scalar
   have fs := fits_scalar hsc
   have cs := CV.cells_scalar hsc
   have s3 := sto_last (t' := { t with prog := t.prog ++ [o] }) gt la.hst la.len hsc rfl
   have ke : Keep (fun x => x = tb) H3 (H3.set tb (.arr (c0 ++ tkL { t with prog := t.prog ++ [o] } v') st)) := Keep.set _ _ rfl
   simp [fs, cs, s3]
   have hv : ∀ x, v'.blk = some x → b < x ∧ cv.blk ≠ some x ∧ tb ≠ x := fun x hx => by
    rcases hb3 x hx with q | q
    ·exact la.hp x q
    ·exact ⟨by omega, fun e => by have := i.oc.blk x e; omega, by omega⟩
   have hQ : ∀ x, (P x ∨ (h.length ≤ x ∧ x < (h1 ++ [Obj.arr row .tight, .arr row .tight]).length)) → b < x ∧ x < (h1 ++ [Obj.arr row .tight, .arr row .tight]).length ∧ cv.blk ≠ some x ∧ tb ≠ x := fun x hx => by
    rcases hx with hx | hx
    ·have q := la2.hP x hx; exact q
    ·exact ⟨by omega, hx.2, fun e => by have := i.oc.blk x e; omega, by omega⟩
   have k3l := k3.len
   refine ⟨⟨cv, tv, c0 ++ tkL { t with prog := t.prog ++ [o] } v', ?_⟩, ?_⟩
   ·refine ⟨ke.at gb (by omega), (i2.oc.keep k3 (fun x hx e => (la.hp x e).2.1 hx) fun _ hx => hx.elim).keep ke (fun x hx e => hbt.2 (e ▸ hx)) (fun _ hx => hx.elim), ?_, ?_, i.bc, i.bt⟩
    ·refine .inr ⟨tb, _, st, e3, ?_, la.hst, get_set_self (lt_of_get gt)⟩
     simp [tkL, la.len]; omega
    ·refine .inr ⟨_, init, { t with prog := t.prog ++ [o] }, c0, v', rfl, rfl, ?_, o3.keep ke (fun x hx e => by have := (hv x hx).2.2; omega) (fun x hx e => by have := (hQ x hx).2.2.2; omega), fun x hx => ?_, fun x hx => ?_⟩
     ·refine (((la2.rw.mono fun x hx => .inl hx).keep k3 fun x hx e => ?_).keep ke fun x hx e => by have := (hQ x hx).2.2.2; omega)
      rcases hx with hx | hx
      ·exact hno x e hx
      ·have := la.ow.blk x e; omega
     ·obtain ⟨a1, a2, a3, a4⟩ := hQ x hx
      refine ⟨a1, ?_, a3, fun e => a4 ?_⟩
      ·have := ke.len; omega
      ·rw [e3] at e; simpa [CV.blk] using e
     ·obtain ⟨a1, a3, a4⟩ := hv x hx
      refine ⟨a1, a3, fun e => a4 ?_⟩
      rw [e3] at e; simpa [CV.blk] using e
   ·have kq : Keep (fun x => b ≤ x) h H3 := (kk.mono fun _ _ h => h.elim).then k3 fun x hx e => by have := (la.hp x e).1; omega
    exact kq.trans (ke.mono fun x _ hx => by omega)
theorem txWords_ne {s : List UInt8} {l : List (List UInt8)} (h : wordsP s = some l) : l.length ≤ s.length + 1 ∧ ∀ w ∈ l, w.length ≤ s.length := by
 unfold wordsP at h
 split at h
 ·cases h; simp
 ·split at h
  ·cases h
   exact ⟨splitC_len_le 32 s, fun w hw => splitC_part hw⟩
  ·cases h
theorem linesOf_bnd : ∀ (ls : List (List UInt8)), ls.length ≤ (linesOf ls).length ∧ ∀ l ∈ ls, l.length ≤ (linesOf ls).length
 | [] => by simp [linesOf]
 | w :: r => by
   obtain ⟨a, b⟩ := linesOf_bnd r
   have e : linesOf (w :: r) = w ++ [10] ++ linesOf r := by simp [linesOf]
   rw [e]
   simp only [List.length_append, List.length_cons, List.length_nil]
   refine ⟨by omega, fun l hl => ?_⟩
   rcases List.mem_cons.1 hl with rfl | hl
   ·omega
   ·have := b l hl; omega
theorem lines_bnd {s : List UInt8} {ls : List (List UInt8)} (h : linesP s = some ls) : ls.length ≤ s.length ∧ ∀ l ∈ ls, l.length ≤ s.length := by
 have := linesOf_bnd ls
 rwa [of_lines h] at this
structure SetV.Sm (s : SetV) : Prop where
 c : s.chans.length ≤ 8
 t : s.tasks.length ≤ 12
 p : ∀ t ∈ s.tasks, t.prog.length ≤ 48 ∧ t.name.length ≤ 100000 ∧ ∀ o ∈ t.prog, o.In
theorem OpV.In.fine {x : OpV} (h : x.In) : x.fine := ⟨h.v, fun c hc => (h.c c hc).2⟩
theorem SetV.Sm.fine {s : SetV} (m : s.Sm) : s.fine := fun t ht o ho => ((m.p t ht).2.2 o ho).fine
theorem SetV.Sm.Sane {s : SetV} (m : s.Sm) : s.Sane := ⟨fun t ht => ⟨by have := (m.p t ht).1; simp [big]; omega, fun o ho => ((m.p t ht).2.2 o ho).l, by have := (m.p t ht).2.1; omega⟩, by have := m.c; simp [big]; omega, by have := m.t; simp [big]; omega⟩
theorem set0_sm : set0.Sm := ⟨by simp [set0], by simp [set0], by simp [set0]⟩
theorem SetV.Sm.last {s : SetV} (m : s.Sm) : lastLen s.tasks ≤ 48 := by
 rcases List.eq_nil_or_concat s.tasks with e | ⟨l, t, e⟩
 ·rw [e]; simp [lastLen]
 ·rw [e, List.concat_eq_append, lastLen_snoc]
  exact (m.p t (by rw [e]; simp)).1
theorem addOp_sm {o : OpV} (ho : o.In) {l : List TaskV} (hl : lastLen l ≠ 48) (h : ∀ t ∈ l, t.prog.length ≤ 48 ∧ t.name.length ≤ 100000 ∧ ∀ o ∈ t.prog, o.In) : (addOp o l).length = l.length ∧ ∀ t ∈ addOp o l, t.prog.length ≤ 48 ∧ t.name.length ≤ 100000 ∧ ∀ o ∈ t.prog, o.In := by
 rcases List.eq_nil_or_concat l with e | ⟨r, t, e⟩
 ·rw [e]; simp [addOp]
 ·rw [List.concat_eq_append] at e
  subst e
  rw [addOp_snoc]
  rw [lastLen_snoc] at hl
  refine ⟨by simp, fun u hu => ?_⟩
  rcases List.mem_append.1 hu with hu | hu
  ·exact h u (by simp [hu])
  ·have q := h t (by simp)
   simp at hu
   subst hu
   refine ⟨by simp; omega, q.2.1, fun x hx => ?_⟩
   rcases List.mem_append.1 hx with hx | hx
   ·exact q.2.2 x hx
   ·simp at hx; subst hx; exact ho
theorem at_mem_le {w : List Wd} {n i : Nat} (h : ∀ x ∈ w, x.length ≤ n) : (at_ w i).length ≤ n := by
 unfold at_
 cases hq : w[i]? with
 | none => simp
 | some x => exact h x (List.mem_of_getElem? hq)
theorem lineSR_sm {s : SetV} {i : Nat} {t : Wd} (m : s.Sm) (hlt : t.length ≤ 100000) : (lineSR s i t).1.Sm := by
 have hc := m.c
 have ht := m.t
 unfold lineSR
 split
 ·exact m
 ·rename_i w hw
  have hwm : ∀ x ∈ w, x.length ≤ 100000 := fun x hx => by have := (txWords_ne hw).2 x hx; omega
  split
  ·unfold locksR; split
   ·exact m
   ·exact ⟨m.c, m.t, m.p⟩
  ·split
   ·unfold chanR
    repeat' split
    ·exact m
    ·exact m
    ·exact m
    ·exact ⟨by simp; omega, m.t, m.p⟩
   ·split
    ·unfold taskR
     repeat' split
     ·exact m
     ·exact m
     ·exact m
     ·exact m
     ·exact m
     ·refine ⟨m.c, by simp; omega, fun t ht => ?_⟩
      rcases List.mem_append.1 ht with ht | ht
      ·exact m.p t ht
      ·simp at ht; subst ht; exact ⟨by simp, at_mem_le hwm, by simp⟩
    ·split
     ·unfold stepR
      split
      ·exact m
      ·rename_i h48
       obtain ⟨a, b⟩ := addOp_sm (parseP_In t).1 h48 m.p
       exact ⟨m.c, by simp only [a]; exact m.t, b⟩
     ·exact m
theorem txLine_spec (lp : LP p) {b : Nat} {h : Heap} {s : SetV} {i : Nat} {t : List UInt8} (r : RsS b s h) (m : s.Sm) (ht : t.length ≤ 100000) :
  WF p 267 [.ptr b 0, .int .i64 i, .str t] h fun r h' => r = .int .i64 (lineSR s i t).2 ∧ RsS b (lineSR s i t).1 h' ∧ Keep (fun x => b ≤ x) h h' := by
 refine WF_of (by rw [lp.pg]; exact S.pg267) (lp.no ⟨rfl, rfl⟩) ?_
 show W p S.b267 _ _ (retQ [.t 6] _)
 unfold S.b267
 simp
 refine (wordSplit_spec lp (by omega)).mono ?_
 rintro r1 h1 ⟨wv, rfl, sw, k1⟩
 have r1 := r.on k1
 have kk : Keep (fun x => b ≤ x) h h1 := k1.mono fun _ _ h => h.elim
 cases hw : wordsP t with
 | none =>
   have hR : lineSR s i t = (s, 2) := by unfold lineSR; rw [hw]
   rw [hR]
   simp [errOf]
   exact ⟨r1, kk⟩
 | some w =>
   rw [hw] at sw
   have sw : Sl .str h1 (From h) wv w := sw
   obtain ⟨hwl, hwm⟩ := txWords_ne hw
   have hwm' : ∀ x ∈ w, x.length ≤ 1000000 := fun x hx => by have := hwm x hx; omega
   have n0 := sw.len (by decide)
   obtain ⟨cv, tv, cells, ii⟩ := r1
   have r1 : RsS b s h1 := ⟨cv, tv, cells, ii⟩
   have nt := ii.tasks.len (by decide)
   have lS := ld ii.g
   have hmc := m.c
   have hmt := m.t
   have hml := m.last
   have h0 : (0 : Int) ≤ i := by omega
   have hR : lineSR s i t = if i = 0 ∧ at_ w 0 = wLocks then locksR s w else if 0 < i ∧ at_ w 0 = wChan ∧ s.tasks = [] then chanR s w else if 0 < i ∧ at_ w 0 = wTask then taskR s w else if s.tasks ≠ [] ∧ kindOf (at_ w 0) ≠ 0 then stepR s t else (s, 2) := by
    unfold lineSR; rw [hw]
   have hnT : (0 < s.tasks.length) ↔ s.tasks ≠ [] := List.length_pos_iff
   have hnT' : (0 < (s.tasks.length : Int)) ↔ s.tasks ≠ [] := by rw [← hnT]; omega
   by_cases hwe : w = []
   ·subst hwe
    have e0 : at_ ([] : List Wd) 0 = [] := rfl
    rw [e0, if_neg (by rintro ⟨_, h⟩; exact absurd h (by decide)), if_neg (by rintro ⟨_, h, _⟩; exact absurd h (by decide)), if_neg (by rintro ⟨_, h⟩; exact absurd h (by decide)), if_neg (by rintro ⟨_, h⟩; exact absurd (by decide) h)] at hR
    rw [hR]
    have hk0 : decide ([] ∈ opsL) = false := by decide
    by_cases hi : i = 0
    ·by_cases hT : s.tasks = []
     ·simp [errOf, n0, hi, lS, nt, hT]
      exact ⟨r1, kk⟩
     ·have hT1 := hnT.2 hT
      simp [errOf, n0, hi, lS, nt, hT, hT1]
      refine (ops_spec lp).mono ?_
      rintro ov h2 ⟨k2, so⟩
      refine (contains_spec lp so (by decide)).mono ?_
      rintro r2 h3 ⟨rfl, rfl⟩
      rw [hk0]
      simp
      exact ⟨r1.on k2, kk.trans (k2.mono fun _ _ h => h.elim)⟩
    ·have hi' : 0 < i := by omega
     have hi2 : ¬ (i : Int) = 0 := by omega
     have hi3 : 0 < (i : Int) := by omega
     by_cases hT : s.tasks = []
     ·simp [errOf, n0, hi, hi', hi2, hi3, lS, nt, hT]
      exact ⟨r1, kk⟩
     ·have hT1 := hnT.2 hT
      simp [errOf, n0, hi, hi', hi2, hi3, lS, nt, hT, hT1]
      refine (ops_spec lp).mono ?_
      rintro ov h2 ⟨k2, so⟩
      refine (contains_spec lp so (by decide)).mono ?_
      rintro r2 h3 ⟨rfl, rfl⟩
      rw [hk0]
      simp
      exact ⟨r1.on k2, kk.trans (k2.mono fun _ _ h => h.elim)⟩
   ·have hwp : 0 < w.length := List.length_pos_iff.2 hwe
    have hwp' : 0 < (w.length : Int) := by omega
    obtain ⟨b1, o1, x1, x2⟩ := sw.word (i := 0) hwp
    have x1 : idxAddrV 1 wv (.int .i64 0) = some (.ptr b1 o1) := x1
    generalize hf : at_ w 0 = f at *
    have hop : decide (f ∈ opsL) = decide (kindOf f ≠ 0) := by simp only [opsL_kind]
    by_cases hi : i = 0
    ·subst hi
     by_cases hL : f = wLocks
     ·rw [if_pos ⟨rfl, hL⟩] at hR
      rw [hR]
      have hL' : f = [108, 111, 99, 107, 115] := hL
      simp [errOf, n0, hwp, hwp', x1, x2, lS, nt, hL']
      refine (txLocks_spec lp r1 sw hwm').mono ?_
      rintro r2 h2 ⟨rfl, r2, k2⟩
      simp
      exact ⟨r2, kk.trans k2⟩
     ·rw [if_neg (fun h => hL h.2), if_neg (by omega), if_neg (by omega)] at hR
      have hL' : ¬ f = [108, 111, 99, 107, 115] := hL
      by_cases hT : s.tasks = []
      ·rw [if_neg (fun h => h.1 hT)] at hR
       rw [hR]
       simp [errOf, n0, hwp, hwp', x1, x2, lS, nt, hL', hT]
       exact ⟨r1, kk⟩
      ·have hT1 := hnT.2 hT
       simp [errOf, n0, hwp, hwp', x1, x2, lS, nt, hL', hT, hT1]
       refine (ops_spec lp).mono ?_
       rintro ov h2 ⟨k2, so⟩
       refine (contains_spec lp so (by decide)).mono ?_
       rintro r2 h3 ⟨rfl, rfl⟩
       rw [hop]
       by_cases hk : kindOf f = 0
       ·rw [if_neg (fun h => h.2 hk)] at hR
        rw [hR]
        simp [hk]
        exact ⟨r1.on k2, kk.trans (k2.mono fun _ _ h => h.elim)⟩
       ·rw [if_pos ⟨hT, hk⟩] at hR
        rw [hR]
        simp [hk]
        refine (txStep_spec lp (r1.on k2) hT ht (by omega) (by omega)).mono ?_
        rintro r2 h4 ⟨rfl, r2, k4⟩
        simp
        exact ⟨r2, (kk.trans (k2.mono fun _ _ h => h.elim)).trans k4⟩
    ·have hi' : 0 < i := by omega
     have hi2 : ¬ (i : Int) = 0 := by omega
     have hi3 : 0 < (i : Int) := by omega
     rw [if_neg (fun h => hi h.1)] at hR
     by_cases hC : f = wChan ∧ s.tasks = []
     ·rw [if_pos ⟨hi', hC⟩] at hR
      rw [hR]
      have hC' : f = [99, 104, 97, 110] := hC.1
      have hT := hC.2
      simp [errOf, n0, hwp, hwp', x1, x2, lS, nt, hi, hi', hi2, hi3, hC', hT]
      refine (channel_spec lp r1 sw hwm' (by omega)).mono ?_
      rintro r2 h2 ⟨rfl, r2, k2⟩
      simp
      exact ⟨r2, kk.trans k2⟩
     ·rw [if_neg (fun h => hC h.2)] at hR
      have hcb : decide (f = [99, 104, 97, 110]) = true → ¬ s.tasks = [] := fun h hT => hC ⟨of_decide_eq_true h, hT⟩
      by_cases hK : f = wTask
      ·rw [if_pos ⟨hi', hK⟩] at hR
       rw [hR]
       have hK' : f = [116, 97, 115, 107] := hK
       simp [errOf, n0, hwp, hwp', x1, x2, lS, nt, hi, hi', hi2, hi3, hK']
       refine (taskLine_spec lp r1 sw hwm' (by omega)).mono ?_
       rintro r2 h2 ⟨rfl, r2, k2⟩
       simp
       exact ⟨r2, kk.trans k2⟩
      ·rw [if_neg (fun h => hK h.2)] at hR
       have hK' : ¬ f = [116, 97, 115, 107] := hK
       by_cases hT : s.tasks = []
       ·have hC' : ¬ f = [99, 104, 97, 110] := fun h => hC ⟨h, hT⟩
        rw [if_neg (fun h => h.1 hT)] at hR
        rw [hR]
        simp [errOf, n0, hwp, hwp', x1, x2, lS, nt, hi, hi', hi2, hi3, hC', hK', hT]
        exact ⟨r1, kk⟩
       ·have hT1 := hnT.2 hT
        have fin : ∀ K : CV → Heap → Prop, (∀ h2, Keep NoneOf h1 h2 → K (.bool (decide (kindOf f ≠ 0))) h2) → WF p 277 [] h1 fun ov h2 => WF p 278 [ov, .str f] h2 K := fun K hK => by
         refine (ops_spec lp).mono ?_
         rintro ov h2 ⟨k2, so⟩
         refine (contains_spec lp so (by decide)).mono ?_
         rintro r2 h3 ⟨rfl, rfl⟩
         rw [hop]
         exact hK _ k2
        by_cases hC' : f = [99, 104, 97, 110]
        ·simp [errOf, n0, hwp, hwp', x1, x2, lS, nt, hi, hi', hi2, hi3, hC', hT, hT1]
         rw [← hC']
         refine fin _ fun h2 k2 => ?_
         have hk : kindOf f = 0 := by rw [hC']; rfl
         rw [if_neg (fun h => h.2 hk)] at hR
         rw [hR]
         simp [hk]
         exact ⟨r1.on k2, kk.trans (k2.mono fun _ _ h => h.elim)⟩
        ·simp [errOf, n0, hwp, hwp', x1, x2, lS, nt, hi, hi', hi2, hi3, hC', hK', hT, hT1]
         refine fin _ fun h2 k2 => ?_
         by_cases hk : kindOf f = 0
         ·rw [if_neg (fun h => h.2 hk)] at hR
          rw [hR]
          simp [hk]
          exact ⟨r1.on k2, kk.trans (k2.mono fun _ _ h => h.elim)⟩
         ·rw [if_pos ⟨hT, hk⟩] at hR
          rw [hR]
          simp [hk]
          refine (txStep_spec lp (r1.on k2) hT ht (by omega) (by omega)).mono ?_
          rintro r2 h4 ⟨rfl, r2, k4⟩
          simp
          exact ⟨r2, (kk.trans (k2.mono fun _ _ h => h.elim)).trans k4⟩
def SetQ (x : SetV × Int × Int) (h : Heap) (r : CV) (h' : Heap) : Prop :=
 ∃ c, r = .tup [.agg c, .int .i64 x.2.1, .int .i64 x.2.2] ∧ setC.rep h' (From h) c x.1 ∧ Keep NoneOf h h'
theorem set0_rep {h : Heap} {P : Nat → Prop} : setC.rep h P [.int .i64 0, .nils, .nils] set0 := ⟨.nils, .nils, rfl, Sl.nil, Sl.nil⟩
def TpI (A : Nat) (lv : CV) (ls : List Wd) (h : Heap) (m : Nat) (e : Env) (h' : Heap) : Prop :=
 ∃ (i : Nat) (s : SetV), i ≤ ls.length ∧ m = ls.length - i ∧ e = [(2, .ptr A 0), (7, .ptr h.length 0), (31, lv), (32, .int .i64 ls.length), (33, .int .i64 i)] ∧ RsS h.length s h' ∧ s.Sm ∧ Keep NoneOf h h' ∧
  setGo 0 ls set0 = setGo i (ls.drop i) s
theorem textParse_spec (lp : LP p) {s : List UInt8} {h : Heap} (hs : s.length ≤ 10000000) (hlong : ∀ ls, linesP s = some ls → ∀ l ∈ ls, l.length ≤ 100000) : WF p 252 [.str s] h (SetQ (setR s) h) := by
 refine WF_of (by rw [lp.pg]; exact S.pg252) (lp.no ⟨rfl, rfl⟩) ?_
 show W p S.b252 _ _ (retQ [.cell (some 3) 2, .t 3, .t 4] _)
 unfold S.b252
 have f0 : fillC [.int .i64 0, .nils, .nils] [] = some [.int .i64 0, .nils, .nils] := rfl
 have ki := Keep.app NoneOf h [.arr [.int .i64 0, .nils, .nils] .tight]
 have g0 := get_new (h := h) (o := .arr [.int .i64 0, .nils, .nils] .tight)
 simp
 refine (wordLines_spec lp (by omega)).mono ?_
 rintro r h1 ⟨lv, rfl, sl, k1⟩
 have g1 := k1.at g0 id
 have s1 := sto g1 (vs := [.int .i64 0, .nils, .nils]) rfl rfl
 have w1 := ldw (get_set_self (o := .arr [.int .i64 0, .nils, .nils] .tight) (lt_of_get g1)) (n := 3) rfl
 have bad : ∀ (hh : Heap) (i e : Int), Keep NoneOf h hh → ∀ h', Keep NoneOf hh h' → SetQ (set0, i, e) h (.tup [.agg [.int .i64 0, .nils, .nils], .int .i64 i, .int .i64 e]) h' := fun hh i e k h' k' => ⟨_, rfl, set0_rep, k.trans k'⟩
 have ks : ∀ (hh : Heap), Keep NoneOf h hh → ∀ o, Keep NoneOf h (hh.set h.length o) := fun hh k o => k.then (Keep.set (S := fun x => x = h.length) _ _ rfl) fun x hx e => by omega
 cases hl : linesP s with
 | none =>
   have hR : setR s = (set0, 0, 2) := by unfold setR; rw [hl]
   rw [hR]
   simp [errOf, f0, s1, w1]
   exact ⟨_, rfl, set0_rep, ks _ (ki.trans k1) _⟩
 | some ls =>
   rw [hl] at sl
   have sl : Sl .str h1 (From (h ++ [.arr [.int .i64 0, .nils, .nils] .tight])) lv ls := sl
   have n0 := sl.len (by decide)
   obtain ⟨hll, hlm⟩ := lines_bnd hl
   have hlq := hlong ls hl
   by_cases hle : ls = []
   ·subst hle
    have hR : setR s = (set0, 0, 2) := by unfold setR; rw [hl]
    rw [hR]
    simp [errOf, n0, f0, s1, w1]
    exact ⟨_, rfl, set0_rep, ks _ (ki.trans k1) _⟩
   ·have hlp : ls.length ≠ 0 := fun h => hle (List.eq_nil_of_length_eq_zero h)
    have hlp' : ¬ (ls.length : Int) = 0 := by omega
    have hR : setR s = setGo 0 ls set0 := by
     unfold setR; rw [hl]
     cases ls with
     | nil => exact absurd rfl hle
     | cons _ _ => rfl
    simp [errOf, n0, hle, hlp, hlp', f0]
    have kb := Keep.app NoneOf h1 [.arr [.int .i64 0, .nils, .nils] .tight]
    have n1 := (sl.on kb).len (by decide)
    have r0 : RsS h1.length set0 (h1 ++ [.arr [.int .i64 0, .nils, .nils] .tight]) := ⟨.nils, .nils, [], get_new, OwnL.nil, .inl ⟨rfl, rfl⟩, .inl ⟨rfl, rfl⟩, by simp [CV.blk], by simp [CV.blk]⟩
    simp [n1]
    refine W_loop (TpI h.length lv ls h1) ?_ ls.length ⟨0, set0, by omega, by omega, rfl, r0, set0_sm, kb, rfl⟩
    rintro m e h2 ⟨i, x, hi, rfl, rfl, r2, sm, k2, hgo⟩
    have K2 := (ki.trans k1).trans k2
    have g2 := k2.at g1 id
    by_cases hie : i = ls.length
    ·subst hie
     rw [List.drop_length, setGo] at hgo
     obtain ⟨cv, tv, cells, ii⟩ := r2
     have lW := ldw ii.g (n := 3) rfl
     simp [lW]
     refine (setCheck_spec lp ii.rep sm.Sane).mono ?_
     rintro r h3 ⟨rfl, k3⟩
     have g3 := k3.at g2 id
     have s3 := sto g3 (vs := [.int .i64 0, .nils, .nils]) rfl rfl
     have w3 := ldw (get_set_self (o := .arr [.int .i64 0, .nils, .nils] .tight) (lt_of_get g3)) (n := 3) rfl
     have i3 := ii.on k3
     have lW3 := ldw i3.g (n := 3) rfl
     by_cases hc : (setP x).2 = 0
     ·rw [if_pos hc] at hgo
      rw [hR, hgo]
      have fl : [.int .i64 x.locks, cv, tv].all CV.scalar = true := setC.flat i3.rep
      have s4 := sto g3 (vs := [.int .i64 x.locks, cv, tv]) rfl fl
      have w4 := ldw (get_set_self (o := .arr [.int .i64 x.locks, cv, tv] .tight) (lt_of_get g3)) (n := 3) rfl
      have hA := lt_of_get g0
      simp only [List.length_append, List.length_cons, List.length_nil] at hA
      have hbl := k1.len
      simp only [List.length_append, List.length_cons, List.length_nil] at hbl
      have ff : fits (some 3) (.agg [.int .i64 x.locks, cv, tv]) = true := rfl
      simp [hc, lW3, CV.cells, s4, w4]
      refine ⟨_, rfl, ?_, ks _ (K2.trans k3) _⟩
      have kk : Keep (fun y => y = h.length) h3 (h3.set h.length (.arr [.int .i64 x.locks, cv, tv] .tight)) := Keep.set _ _ rfl
      exact setC.mono (setC.keep i3.rep kk fun y hy e => by omega) fun y hy => by simp only [From]; omega
     ·rw [if_neg hc] at hgo
      rw [hR, hgo]
      simp [hc, f0, s3, w3]
      exact ⟨_, rfl, set0_rep, ks _ (K2.trans k3) _⟩
    ·have hlt : i < ls.length := by omega
     have hlt' : (i : Int) < ls.length := by omega
     obtain ⟨b1, o1, x1, x2⟩ := (sl.on k2).word hlt
     have hat : at_ ls i = ls[i] := by simp [at_, List.getElem?_eq_getElem hlt]
     rw [hat] at x2
     have hli := hlq _ (List.getElem_mem hlt)
     have hw1 : IntKind.i64.wrap ((i : Int) + 1) = ((i + 1 : Nat) : Int) := by rw [w64 (by omega) (by omega)]; omega
     rw [List.drop_eq_getElem_cons hlt, setGo] at hgo
     simp [hlt', x1, x2]
     refine (txLine_spec lp r2 sm hli).mono ?_
     rintro r h3 ⟨rfl, r3, k3⟩
     have sm3 := lineSR_sm (i := i) sm hli
     have k23 : Keep NoneOf h1 h3 := k2.then k3 fun y hy e => by omega
     have K3 := (ki.trans k1).trans k23
     have g3 := k23.at g1 id
     have s3 := sto g3 (vs := [.int .i64 0, .nils, .nils]) rfl rfl
     have w3 := ldw (get_set_self (o := .arr [.int .i64 0, .nils, .nils] .tight) (lt_of_get g3)) (n := 3) rfl
     by_cases he : (lineSR x i ls[i]).2 = 0
     ·rw [if_pos he] at hgo
      simp [he, hw1]
      exact ⟨ls.length - (i + 1), by omega, i + 1, _, by omega, rfl, rfl, r3, sm3, k23, hgo⟩
     ·rw [if_neg he] at hgo
      rw [hR, hgo]
      simp [he, f0, s3, w3]
      exact ⟨_, rfl, set0_rep, ks _ K3 _⟩
end Go.Cl
