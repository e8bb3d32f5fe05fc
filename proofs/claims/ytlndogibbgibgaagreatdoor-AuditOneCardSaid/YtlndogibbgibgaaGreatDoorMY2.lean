/-
  Texts laid together: ALogX.
-/
import Derived.Test.YtlndogibbgibgaaGreatDoorMY1
namespace Go.Cl
open Go
set_option linter.unusedSimpArgs false
set_option linter.unusedVariables false
set_option maxHeartbeats 2000000
variable {p : PP}
theorem ev3_some {e : List CV} {t k i : Int} (h : ev3 e = some (t, k, i)) : ∃ a b c d, e = [.int .i64 t, .int .i64 k, .int .i64 i, a, b, c, d] := by
 unfold ev3 at h
 split at h
 ·simp at h
  obtain ⟨rfl, rfl, rfl⟩ := h
  exact ⟨_, _, _, _, rfl⟩
 ·cases h
structure LgH (pb mb : Nat) (pr : List Int) (h : Heap) (s : LogS) (ov : CV) (h' : Heap) : Prop where
 k : Keep NoneOf h h'
 gm : h'[mb]? = some (.map (s.1.map mkE) s.2.1)
 gp : h'[pb]? = some (.arr (ints .i64 pr) .tight)
 ow : OwnL logC h' NoneOf ov s.2.2
 ob : ∀ b, ov.blk = some b → h.length ≤ b ∧ b ≠ mb ∧ b ≠ pb
 mbl : h.length ≤ mb
 pbl : h.length ≤ pb
 ne : mb ≠ pb
def LgI (pb mb : Nat) (pr : List Int) (h : Heap) (xv : CV) (evs : List (List CV)) (res : LogS) (m : Nat) (e : Env) (h' : Heap) : Prop :=
 ∃ (i : Nat) (s : LogS) (ov : CV), i ≤ evs.length ∧ m = evs.length - i ∧ logsF pr (evs.drop i) s = some res ∧ s.2.2.length ≤ i ∧ LgH pb mb pr h s ov h' ∧
  e = [(5, .sl pb 0 pr.length pr.length), (6, .mp mb), (7, ov), (15, xv), (16, .int .i64 evs.length), (17, .int .i64 i)]
theorem LgH.on {pb mb : Nat} {pr : List Int} {h : Heap} {s : LogS} {ov : CV} {h1 h2 : Heap} (q : LgH pb mb pr h s ov h1) (k : Keep NoneOf h1 h2) : LgH pb mb pr h s ov h2 :=
 ⟨q.k.trans k, k.at q.gm id, k.at q.gp id, q.ow.on k, q.ob, q.mbl, q.pbl, q.ne⟩
theorem erase_mk {α β : Type} {f : α → β} : ∀ {l : List α} {i : Nat}, (l.map f).eraseIdx i = (l.eraseIdx i).map f
 | [], i => by simp
 | a :: l, 0 => by simp
 | a :: l, i + 1 => by simp [erase_mk (l := l) (i := i)]
theorem stoQ {h : Heap} {b o : Nat} {cs : List CV} {v : CV} {st : St} (hs : st ≠ .ro) (e : h[b]? = some (.arr cs st)) (ho : o < cs.length) (hv : v.scalar = true) : storeAt h b o [v] = some (h.set b (.arr (cs.set o v) st)) := by
 simp only [storeAt, e]
 rw [if_pos ⟨hs, by simp; omega, by simp [hv]⟩, splice_set ho]
theorem mapup_mk {h : Heap} {mb : Nat} {op : List OpE} {c : Nat} {k v : Int} (g : h[mb]? = some (.map (op.map mkE) c)) :
  mapupV h .i (.mp mb) (.int .i64 k) (.int .i64 v) = some (h.set mb (.map ((putK op c k v).1.map mkE) (putK op c k v).2)) := by
 simp only [mapupV, g, findKey_mk, putK]
 cases fixK k op 0 with
 | none => simp [mkE]
 | some q => obtain ⟨i, v', b⟩ := q; simp [mkE, List.map_set]
theorem lookup_mk {h : Heap} {mb : Nat} {op : List OpE} {c : Nat} {k : Int} {z : CV} (g : h[mb]? = some (.map (op.map mkE) c)) :
  lookupV h true .i z (.mp mb) (.int .i64 k) = some (match fixK k op 0 with | some (_, v, _) => .tup [.int .i64 v, .bool true] | none => .tup [z, .bool false]) := by
 simp only [lookupV, g, findKey_mk]
 cases fixK k op 0 with
 | none => rfl
 | some q => obtain ⟨i, v', b⟩ := q; rfl
theorem del_mk {h : Heap} {mb : Nat} {op : List OpE} {c : Nat} {k : Int} {q : Nat × Int × Nat} (g : h[mb]? = some (.map (op.map mkE) c)) (hq : fixK k op 0 = some q) :
  delV h .i (.mp mb) (.int .i64 k) = some (h.set mb (.map ((delK op k).map mkE) c)) := by
 obtain ⟨i, v', b⟩ := q
 simp only [delV, g, findKey_mk, delK, hq]
 simp [erase_mk]
theorem log_set {h h' : Heap} {P P' : Nat → Prop} {cells : List CV} {out : List LogV} {i : Nat} {l : LogV} {T : Int} {b : Bool} (r : Rows logC h P cells out) (hl : out[i]? = some l) :
  Rows logC h' P' (((cells.set (i * 7 + 2) (.int .i64 T)).set (i * 7 + 3) (.bool true)).set (i * 7 + 4) (.bool b)) (out.set i { l with fin := T, ended := true, aborted := b }) := by
 have h7 : logC.n = 7 := rfl
 refine ⟨by simpa using r.1, fun j x hx => ?_⟩
 have hcl := r.1
 rw [h7] at hcl ⊢
 show _ = logL x
 have hil := (List.getElem?_eq_some_iff.1 hl).1
 have hc : ∀ j y, out[j]? = some y → ∀ q, q < 7 → cells[j * 7 + q]? = (logL y)[q]? := fun j y hy q hq => by
  have hr : (cells.drop (j * logC.n)).take logC.n = logL y := r.2 j y hy
  rw [h7] at hr
  rw [← hr, List.getElem?_take_of_lt hq, List.getElem?_drop]
 have hjl : j < out.length := by
  have := (List.getElem?_eq_some_iff.1 hx).1
  simpa using this
 apply List.ext_getElem? fun q => ?_
 by_cases hq : q < 7
 ·rw [List.getElem?_take_of_lt hq, List.getElem?_drop]
  by_cases hji : j = i
  ·subst hji
   rw [List.getElem?_set_self hjl] at hx
   obtain rfl := Option.some.inj hx
   have hq' : q = 0 ∨ q = 1 ∨ q = 2 ∨ q = 3 ∨ q = 4 ∨ q = 5 ∨ q = 6 := by omega
   rcases hq' with rfl | rfl | rfl | rfl | rfl | rfl | rfl
   ·rw [List.getElem?_set_ne (by omega), List.getElem?_set_ne (by omega), List.getElem?_set_ne (by omega), hc j l hl 0 (by omega)]; rfl
   ·rw [List.getElem?_set_ne (by omega), List.getElem?_set_ne (by omega), List.getElem?_set_ne (by omega), hc j l hl 1 (by omega)]; rfl
   ·rw [List.getElem?_set_ne (by omega), List.getElem?_set_ne (by omega), List.getElem?_set_self (by omega)]; rfl
   ·rw [List.getElem?_set_ne (by omega), List.getElem?_set_self (by rw [List.length_set]; omega)]; rfl
   ·rw [List.getElem?_set_self (by rw [List.length_set, List.length_set]; omega)]; rfl
   ·rw [List.getElem?_set_ne (by omega), List.getElem?_set_ne (by omega), List.getElem?_set_ne (by omega), hc j l hl 5 (by omega)]; rfl
   ·rw [List.getElem?_set_ne (by omega), List.getElem?_set_ne (by omega), List.getElem?_set_ne (by omega), hc j l hl 6 (by omega)]; rfl
  ·rw [List.getElem?_set_ne (by omega)] at hx
   rw [List.getElem?_set_ne (by omega), List.getElem?_set_ne (by omega), List.getElem?_set_ne (by omega), hc j x hx q hq]
 ·rw [List.getElem?_eq_none (by simp; omega), List.getElem?_eq_none (by show (logL _).length ≤ q; simp [logL]; omega)]
theorem logs477 (lp : LP p) (hp2 : p.pr 482 = some ranP) {h : Heap} {P P' : Nat → Prop} {x : SetV} {c : List CV} {xv : CV} {evs : List (List CV)} {res : LogS} (rx : setC.rep h P c x) (hP : ∀ y, P y → y < h.length) (hn : 1 ≤ x.tasks.length) (h12 : x.tasks.length ≤ 12) (ev : Sl evtC h P' xv evs) (hel : evs.length ≤ 100000)
  (hf : logsF (priosP x.tasks) evs ([], 0, []) = some res) :
  WF p 477 [.agg c, xv] h fun r h' => Keep NoneOf h h' ∧ Sl logC h' (From h) r res.2.2 := by
 refine WF_of (by rw [lp.pg]; exact S.pg477) (lp.no ⟨rfl, rfl⟩) ?_
 show W p S.b477 _ _ (retQ [.t 4] _)
 unfold S.b477
 have hca : ∀ l, (CV.agg l).cells = l := fun _ => rfl
 have cl3 : c.length = 3 := setC.len rx
 have kap := Keep.app NoneOf h [.arr c .tight]
 have w0 := ldw (get_new (h := h) (o := .arr c .tight)) (n := 3) cl3
 have rx1 := setC.on rx kap
 have ev1 := ev.on kap
 have hl1 : (h ++ [Obj.arr c .tight]).length = h.length + 1 := by simp
 simp [hca, w0]
 generalize h ++ [Obj.arr c .tight] = H1 at *
 refine (priosG lp rx1 (fun y hy => by have := hP y hy; omega) hn h12).mono ?_
 rintro r H2 ⟨k2, pb, rfl, hpb, gp⟩
 have hk2 := k2.len
 have hpl := lt_of_get gp
 have pl : (priosP x.tasks).length = x.tasks.length := priosP_length
 generalize priosP x.tasks = pr at *
 rw [← pl]
 try simp
 have k3 := Keep.app NoneOf H2 [.map [] 0]
 have gm3 : (H2 ++ [Obj.map [] 0])[H2.length]? = some (.map [] 0) := by simp
 have gp3 := k3.at gp id
 have ev3' := (ev1.on k2).on k3
 have K3 := (kap.trans k2).trans k3
 have n3 := ev3'.len (by decide)
 have hl3 : (H2 ++ [Obj.map [] 0]).length = H2.length + 1 := by simp
 generalize H2 ++ [Obj.map [] 0] = H3 at *
 simp [n3]
 refine W_loop (LgI pb H2.length pr h xv evs res) ?_ evs.length ⟨0, ([], 0, []), .nils, by omega, by omega, hf, by simp, ⟨K3, gm3, gp3, OwnL.nil, by simp [CV.blk], by omega, by omega, by omega⟩, rfl⟩
 rintro m e H4 ⟨i, s, ov, hi, rfl, hf4, hlen, q, rfl⟩
 by_cases hie : i = evs.length
 ·subst hie
  rw [List.drop_length] at hf4
  simp only [logsF, Option.some.injEq] at hf4
  subst hf4
  simp
  exact ⟨q.k, q.ow.sl.mono fun b hb => hb.elim False.elim fun e => (q.ob b e).1⟩
 have hlt : i < evs.length := by omega
 have hlt' : (i : Int) < evs.length := by omega
 have hw2 : IntKind.i64.wrap ((i : Int) + 1) = ((i + 1 : Nat) : Int) := by rw [w64 (by omega) (by omega)]; omega
 have ev4 := ev.on q.k
 obtain ⟨b0, o0, row, x1, x2, x3, x4⟩ := ev4.row (k := .i64) (by decide) hlt
 have x1 : idxAddrV 7 xv (.int .i64 (i : Int)) = some (.ptr b0 o0) := x1
 have x2 : loadAt H4 b0 o0 (some 7) = some (.agg row) := x2
 obtain ⟨x4, x5, x6⟩ := x4
 rw [List.drop_eq_getElem_cons hlt] at hf4
 simp only [logsF] at hf4
 cases hst : logStep pr s evs[i] with
 | none => rw [hst] at hf4; cases hf4
 | some s' =>
 rw [hst] at hf4
 simp only at hf4
 unfold logStep at hst
 cases hev : ev3 evs[i] with
 | none => rw [hev] at hst; cases hst
 | some q3 =>
 obtain ⟨T, kd, tk⟩ := q3
 rw [hev] at hst
 simp only at hst
 obtain ⟨z1, z2, z3, z4, hz⟩ := ev3_some hev
 rw [hz] at x4 x5 x6
 subst x4
 have f1 : fillC [.int .i64 0, .int .i64 0, .int .i64 0, .int .i64 0, .int .i64 0, .int .i64 0, .int .i64 0] [] = some [.int .i64 0, .int .i64 0, .int .i64 0, .int .i64 0, .int .i64 0, .int .i64 0, .int .i64 0] := rfl
 have s1 := store_new (h := H4) (row := [.int .i64 T, .int .i64 kd, .int .i64 tk, z1, z2, z3, z4]) (z := [.int .i64 0, .int .i64 0, .int .i64 0, .int .i64 0, .int .i64 0, .int .i64 0, .int .i64 0]) rfl x6
 have k5 := Keep.app NoneOf H4 [.arr [.int .i64 T, .int .i64 kd, .int .i64 tk, z1, z2, z3, z4] .tight]
 have g5 := get_new (h := H4) (o := .arr [.int .i64 T, .int .i64 kd, .int .i64 tk, z1, z2, z3, z4] .tight)
 have q5 := q.on k5
 have hl5 : (H4 ++ [Obj.arr [.int .i64 T, .int .i64 kd, .int .i64 tk, z1, z2, z3, z4] .tight]).length = H4.length + 1 := by simp
 have l5 := ld g5
 simp [hlt, hlt', x1, x2, f1, hca, s1]
 generalize H4 ++ [Obj.arr [.int .i64 T, .int .i64 kd, .int .i64 tk, z1, z2, z3, z4] .tight] = H5 at *
 by_cases hin : tk < 0 ∨ (pr.length : Int) ≤ tk
 ·rw [if_pos hin] at hst
  simp only [Option.some.injEq] at hst
  subst hst
  have fin : ∃ m', m' < evs.length - i ∧ LgI pb H2.length pr h xv evs res m' [(5, .sl pb 0 pr.length pr.length), (6, .mp H2.length), (7, ov), (15, xv), (16, .int .i64 evs.length), (17, .int .i64 ((i + 1 : Nat) : Int))] H5 :=
   ⟨evs.length - (i + 1), by omega, i + 1, s, ov, by omega, rfl, hf4, by omega, q5, rfl⟩
  by_cases h0 : tk < 0
  ·simp [l5, h0, hw2]
   exact fin
  ·have h1 : (pr.length : Int) ≤ tk := by omega
   simp [l5, h0, h1, hw2]
   exact fin
 rw [if_neg hin] at hst
 have t0 : 0 ≤ tk := by omega
 have t1 : tk < pr.length := by omega
 have t0' : ¬ tk < 0 := by omega
 have t1' : ¬ (pr.length : Int) ≤ tk := by omega
 by_cases h1 : kd = 1
 ·rw [if_pos h1] at hst
  simp only [Option.some.injEq] at hst
  have n5 := q5.ow.sl.len (by decide)
  have mu := mapup_mk (k := tk) (v := (s.2.2.length : Int)) q5.gm
  have k6 : Keep (fun y => y = H2.length) H5 (H5.set H2.length (.map ((putK s.1 s.2.1 tk s.2.2.length).1.map mkE) (putK s.1 s.2.1 tk s.2.2.length).2)) := Keep.set _ _ rfl
  have gm6 := get_set_self (o := .map ((putK s.1 s.2.1 tk s.2.2.length).1.map mkE) (putK s.1 s.2.1 tk s.2.2.length).2) (lt_of_get q5.gm)
  have hmb4 : H2.length < H4.length := lt_of_get q.gm
  have g6 := k6.at g5 (by omega)
  have gp6 := k6.at q5.gp (fun e => q.ne e.symm)
  have ow6 := q5.ow.keep k6 (fun b hb e => (q.ob b hb).2.1 e) fun b hb => hb.elim
  have hl6 : (H5.set H2.length (.map ((putK s.1 s.2.1 tk s.2.2.length).1.map mkE) (putK s.1 s.2.1 tk s.2.2.length).2)).length = H5.length := by simp
  have f2 : fillC [.int .i64 0, .int .i64 0, .int .i64 0, .bool false, .bool false, .int .i64 0, .int .i64 0] [(0, 1, .int .i64 tk), (1, 1, .int .i64 T)] = some (logL ⟨tk, T, 0, false, false, 0, 0⟩) := rfl
  have f3 : fillC [.int .i64 0, .int .i64 0, .int .i64 0, .bool false, .bool false, .int .i64 0, .int .i64 0] [(0, 7, .agg (logL ⟨tk, T, 0, false, false, 0, 0⟩))] = some (logL ⟨tk, T, 0, false, false, 0, 0⟩) := rfl
  simp [l5, t0', t1', h1, n5, mu]
  generalize H5.set H2.length (.map ((putK s.1 s.2.1 tk s.2.2.length).1.map mkE) (putK s.1 s.2.1 tk s.2.2.length).2) = H6 at *
  have l6 := ld g6
  have k7 := Keep.app NoneOf H6 [.arr (logL ⟨tk, T, 0, false, false, 0, 0⟩) .tight]
  have spr : spread (H6 ++ [Obj.arr (logL ⟨tk, T, 0, false, false, 0, 0⟩) .tight]) 7 (.sl H5.length 0 1 1) = some (1, logL ⟨tk, T, 0, false, false, 0, 0⟩) := by rw [← hl6]; simp [spread, cellsAt, logL]
  simp [l6, f2, f3, spr]
  refine OV_push (e := logC) (x := ⟨tk, T, 0, false, false, 0, 0⟩) (ow6.on k7) rfl (fun b hb => hb.elim) (by simp only [big]; omega) (by decide) fun v' H8 ow8 k8 hb8 => ?_
  simp [hw2]
  have hob : ∀ b, v'.blk = some b → h.length ≤ b ∧ b ≠ H2.length ∧ b ≠ pb := fun b hb => by
   rcases hb8 b hb with e | e
   ·exact q.ob b e
   ·have := k7.len; have := lt_of_get gp6; have := q.k.len; omega
  have K8 : Keep NoneOf h H8 := ((q5.k.then k6 fun y hy e => by have := q.mbl; omega).trans k7).then k8 fun y hy e => by have := (q.ob y e).1; omega
  exact ⟨evs.length - (i + 1), by omega, i + 1, s', v', by omega, rfl, hf4, by rw [← hst]; simp; omega, ⟨K8, by rw [← hst]; exact k8.at (k7.at gm6 id) fun e => (q.ob _ e).2.1 rfl, k8.at (k7.at gp6 id) fun e => (q.ob _ e).2.2 rfl, by rw [← hst]; exact ow8, hob, q.mbl, q.pbl, q.ne⟩, rfl⟩
 rw [if_neg h1] at hst
 by_cases h3 : kd = 3
 ·rw [if_pos h3] at hst
  by_cases hc : s.2.2 ≠ [] ∧ openOk pr s.2.2 s.1 s.2.1 = true
  case neg => rw [if_neg hc] at hst; cases hst
  rw [if_pos hc] at hst
  simp only [Option.some.injEq] at hst
  simp [l5, t0', t1', h1, h3]
  refine (ranW hp2 q5.ow q5.gm q5.gp (fun b hb => (q.ob b hb).2.2) hc.1 hc.2 t0 t1).mono ?_
  rintro r H6 ⟨ow6, k6⟩
  simp [hw2]
  exact ⟨evs.length - (i + 1), by omega, i + 1, s', ov, by omega, rfl, hf4, by rw [← hst]; simp [ranL]; omega, ⟨q5.k.then k6 fun y hy e => by have := (q.ob y e).1; omega, by rw [← hst]; exact k6.at q5.gm fun e => (q.ob _ e).2.1 rfl, k6.at q5.gp fun e => (q.ob _ e).2.2 rfl, by rw [← hst]; exact ow6, q.ob, q.mbl, q.pbl, q.ne⟩, rfl⟩
 rw [if_neg h3] at hst
 by_cases h67 : kd = 6 ∨ kd = 7
 ·rw [if_pos h67] at hst
  have lk := lookup_mk (k := tk) (z := .int .i64 0) q5.gm
  cases hfx : fixK tk s.1 0 with
  | none =>
    rw [hfx] at hst lk
    simp only [Option.some.injEq] at hst
    subst hst
    have fin : ∃ m', m' < evs.length - i ∧ LgI pb H2.length pr h xv evs res m' [(5, .sl pb 0 pr.length pr.length), (6, .mp H2.length), (7, ov), (15, xv), (16, .int .i64 evs.length), (17, .int .i64 ((i + 1 : Nat) : Int))] H5 :=
     ⟨evs.length - (i + 1), by omega, i + 1, s, ov, by omega, rfl, hf4, by omega, q5, rfl⟩
    rcases h67 with h6 | h7
    ·simp [l5, t0', t1', h1, h3, h6, lk, hw2]
     exact fin
    ·have h6 : ¬ kd = 6 := by omega
     simp [l5, t0', t1', h1, h3, h6, h7, lk, hw2]
     exact fin
  | some qx =>
    obtain ⟨jx, v, bx⟩ := qx
    rw [hfx] at hst lk
    simp only at hst lk
    by_cases hv0 : 0 ≤ v
    case neg => rw [if_neg hv0] at hst; cases hst
    rw [if_pos hv0] at hst
    cases hol : s.2.2[v.toNat]? with
    | none => rw [hol] at hst; cases hst
    | some l =>
    rw [hol] at hst
    simp only [Option.some.injEq] at hst
    have hvl := (List.getElem?_eq_some_iff.1 hol).1
    obtain ⟨cells, mi, rows, _⟩ := q5.ow
    have hL7 : logC.n = 7 := rfl
    rcases mi with ⟨rfl, rfl⟩ | ⟨ob, n, st, rfl, hl, hst7, gO⟩
    ·have := rows.1
     rw [hL7] at this
     simp at this
     omega
    have hn : n = s.2.2.length := by
     have := rows.1
     rw [hL7] at this hl
     omega
    rw [hL7] at hl
    have hro : st ≠ .ro := by rcases hst7 with rfl | rfl <;> simp
    have hv1 : v < n := by omega
    have hcl : v.toNat * 7 + 7 ≤ cells.length := by omega
    have hob := q.ob ob rfl
    have hbl : ob < H4.length := by have := q.ow.blk ob rfl; exact this
    have hmbl : H2.length < H4.length := lt_of_get q.gm
    have st1 := stoQ hro gO (o := v.toNat * 7 + 2) (v := .int .i64 T) (by omega) rfl
    have k6 : Keep (fun y => y = ob) H5 (H5.set ob (.arr (cells.set (v.toNat * 7 + 2) (.int .i64 T)) st)) := Keep.set _ _ rfl
    have gO6 := get_set_self (o := .arr (cells.set (v.toNat * 7 + 2) (.int .i64 T)) st) (lt_of_get gO)
    have g56 := k6.at g5 (by omega)
    have gm6 := k6.at q5.gm (fun e => hob.2.1 e.symm)
    have gp6 := k6.at q5.gp (fun e => hob.2.2 e.symm)
    generalize hH6 : H5.set ob (.arr (cells.set (v.toNat * 7 + 2) (.int .i64 T)) st) = H6 at *
    have st2 := stoQ hro gO6 (o := v.toNat * 7 + 3) (v := .bool true) (by simp; omega) rfl
    have k7 : Keep (fun y => y = ob) H6 (H6.set ob (.arr ((cells.set (v.toNat * 7 + 2) (.int .i64 T)).set (v.toNat * 7 + 3) (.bool true)) st)) := Keep.set _ _ rfl
    have gO7 := get_set_self (o := .arr ((cells.set (v.toNat * 7 + 2) (.int .i64 T)).set (v.toNat * 7 + 3) (.bool true)) st) (lt_of_get gO6)
    have g57 := k7.at g56 (by omega)
    have gm7 := k7.at gm6 (fun e => hob.2.1 e.symm)
    have gp7 := k7.at gp6 (fun e => hob.2.2 e.symm)
    generalize hH7 : H6.set ob (.arr ((cells.set (v.toNat * 7 + 2) (.int .i64 T)).set (v.toNat * 7 + 3) (.bool true)) st) = H7 at *
    have st3 : ∀ b : Bool, storeAt H7 ob (v.toNat * 7 + 4) [.bool b] = some (H7.set ob (.arr (((cells.set (v.toNat * 7 + 2) (.int .i64 T)).set (v.toNat * 7 + 3) (.bool true)).set (v.toNat * 7 + 4) (.bool b)) st)) := fun b => stoQ hro gO7 (by simp; omega) rfl
    have l56 := ld g56
    have l57 := ld g57
    have k8 : ∀ b : Bool, Keep (fun y => y = ob) H7 (H7.set ob (.arr (((cells.set (v.toNat * 7 + 2) (.int .i64 T)).set (v.toNat * 7 + 3) (.bool true)).set (v.toNat * 7 + 4) (.bool b)) st)) := fun b => Keep.set _ _ rfl
    have gO8 : ∀ b : Bool, (H7.set ob (.arr (((cells.set (v.toNat * 7 + 2) (.int .i64 T)).set (v.toNat * 7 + 3) (.bool true)).set (v.toNat * 7 + 4) (.bool b)) st))[ob]? = some (.arr (((cells.set (v.toNat * 7 + 2) (.int .i64 T)).set (v.toNat * 7 + 3) (.bool true)).set (v.toNat * 7 + 4) (.bool b)) st) := fun b => get_set_self (lt_of_get gO7)
    have fin : ∀ b : Bool, decide (kd = 7) = b → ∃ m', m' < evs.length - i ∧ LgI pb H2.length pr h xv evs res m' [(5, .sl pb 0 pr.length pr.length), (6, .mp H2.length), (7, .sl ob 0 n n), (15, xv), (16, .int .i64 evs.length), (17, .int .i64 ((i + 1 : Nat) : Int))]
      ((H7.set ob (.arr (((cells.set (v.toNat * 7 + 2) (.int .i64 T)).set (v.toNat * 7 + 3) (.bool true)).set (v.toNat * 7 + 4) (.bool b)) st)).set H2.length (.map ((delK s.1 tk).map mkE) s.2.1)) := by
     intro b hb
     have gm8 := (k8 b).at gm7 (fun e => hob.2.1 e.symm)
     have gp8 := (k8 b).at gp7 (fun e => hob.2.2 e.symm)
     have gb8 := gO8 b
     have kk8 := k8 b
     generalize H7.set ob (.arr (((cells.set (v.toNat * 7 + 2) (.int .i64 T)).set (v.toNat * 7 + 3) (.bool true)).set (v.toNat * 7 + 4) (.bool b)) st) = H8 at *
     have k9 : Keep (fun y => y = H2.length) H8 (H8.set H2.length (.map ((delK s.1 tk).map mkE) s.2.1)) := Keep.set _ _ rfl
     have K9 : Keep NoneOf h (H8.set H2.length (.map ((delK s.1 tk).map mkE) s.2.1)) := (((q5.k.then k6 fun y hy e => by have := hob.1; omega).then k7 fun y hy e => by have := hob.1; omega).then kk8 fun y hy e => by have := hob.1; omega).then k9 fun y hy e => by have := q.mbl; omega
     rw [hb] at hst
     refine ⟨evs.length - (i + 1), by omega, i + 1, s', _, by omega, rfl, hf4, by rw [← hst]; simp; omega, ⟨K9, by rw [← hst]; exact get_set_self (lt_of_get gm8), k9.at gp8 (fun e => q.ne e.symm), ?_, q.ob, q.mbl, q.pbl, q.ne⟩, rfl⟩
     rw [← hst]
     exact ⟨_, .inr ⟨ob, n, st, rfl, by simp [hl]; rfl, hst7, k9.at gb8 (fun e => hob.2.1 e)⟩, log_set rows hol, fun _ _ => id⟩
    have l58 : ∀ b : Bool, ∀ o, loadAt (H7.set ob (.arr (((cells.set (v.toNat * 7 + 2) (.int .i64 T)).set (v.toNat * 7 + 3) (.bool true)).set (v.toNat * 7 + 4) (.bool b)) st)) H4.length o none = [CV.int .i64 T, .int .i64 kd, .int .i64 tk, z1, z2, z3, z4][o]? := fun b o => ld ((k8 b).at g57 (by omega)) o
    have dl : ∀ b : Bool, delV (H7.set ob (.arr (((cells.set (v.toNat * 7 + 2) (.int .i64 T)).set (v.toNat * 7 + 3) (.bool true)).set (v.toNat * 7 + 4) (.bool b)) st)) .i (.mp H2.length) (.int .i64 tk) = some ((H7.set ob (.arr (((cells.set (v.toNat * 7 + 2) (.int .i64 T)).set (v.toNat * 7 + 3) (.bool true)).set (v.toNat * 7 + 4) (.bool b)) st)).set H2.length (.map ((delK s.1 tk).map mkE) s.2.1)) := fun b => del_mk ((k8 b).at gm7 (fun e => hob.2.1 e.symm)) hfx
    rcases h67 with h6 | h7
    ·have fin := fin false (by simp [h6])
     simp [l5, t0', t1', h1, h3, h6, lk, hw2, hv0, hv1]
     refine WO_re_n ?_
     simp [st1]
     refine ⟨fun c' => by simp [recheckB, wanted, Env.get, cls, evOp, Opd.ev, withH, CV.eqb, CV.eqb_refl, CV.eqbL_refl, l56, h6, i64], ?_⟩
     simp [hv0, hv1]
     refine WO_re_n ?_
     simp [st2]
     refine ⟨fun c' => by simp [recheckB, wanted, Env.get, cls, evOp, Opd.ev, withH, CV.eqb, CV.eqb_refl, CV.eqbL_refl, l57, h6, i64], ?_⟩
     simp [hv0, hv1, st3, l58, dl, hw2]
     exact fin
    ·have h6 : ¬ kd = 6 := by omega
     have fin := fin true (by simp [h7])
     simp [l5, t0', t1', h1, h3, h6, h7, lk, hw2, hv0, hv1]
     refine WO_re_n ?_
     simp [st1]
     refine ⟨fun c' => by simp [recheckB, wanted, Env.get, cls, evOp, Opd.ev, withH, CV.eqb, CV.eqb_refl, CV.eqbL_refl, l56, h7, i64], ?_⟩
     simp [hv0, hv1]
     refine WO_re_n ?_
     simp [st2]
     refine ⟨fun c' => by simp [recheckB, wanted, Env.get, cls, evOp, Opd.ev, withH, CV.eqb, CV.eqb_refl, CV.eqbL_refl, l57, h7, i64], ?_⟩
     simp [hv0, hv1, st3, l58, dl, hw2]
     exact fin
 ·rw [if_neg h67] at hst
  simp only [Option.some.injEq] at hst
  subst hst
  have h6 : ¬ kd = 6 := fun e => h67 (.inl e)
  have h7 : ¬ kd = 7 := fun e => h67 (.inr e)
  simp [l5, t0', t1', h1, h3, h6, h7, hw2]
  exact ⟨evs.length - (i + 1), by omega, i + 1, s, ov, by omega, rfl, hf4, by omega, q5, rfl⟩
end Go.Cl
