/-
  Texts laid together: AXU.
-/
import Derived.Test.YtlndogibbgibgaaGreatDoorMV
import Derived.Test.YtlndogibbgibgaaGreatDoorMX
namespace Go.Cl
open Go
set_option linter.unusedSimpArgs false
set_option linter.unusedVariables false
set_option maxHeartbeats 1000000
variable {p p' : PP}
def dayX (X : SetV) (n : Nat) : List (List Int) → CoreX → Option (CoreX × List (List CV))
 | [], s => some (s, [])
 | a :: r, s => match loopX X n (askLX X a s).1 with
   | none => none
   | some (s1, E) => match dayX X n r { s1 with now := s.now + 1 } with
     | none => none
     | some (s2, E2) => some (s2, (askLX X a s).2 ++ E ++ E2)
theorem askLX_seq {X : SetV} : ∀ {a : List Int} {s : CoreX}, s.seq ≤ (askLX X a s).1.seq ∧ (askLX X a s).1.seq ≤ s.seq + a.length
 | [], s => by simp [askLX]
 | i :: r, s => by
   have h1 := askIX_seq (X := X) (s := s) (i := i)
   have h2 := askLX_seq (X := X) (a := r) (s := (askIX X s i).1)
   simp only [askLX, List.length_cons]
   omega
theorem behindX_seq {X : SetV} : ∀ {n : Nat} {s s' : CoreX} {e : List (List CV)}, Fit X s → behindX X n s = some (s', e) → s'.seq = s.seq
 | 0, s, s', e, _, h => by simp [behindX] at h
 | n + 1, s, s', e, q, h => by
   simp only [behindX] at h
   split at h
   ·simp at h; rw [← h.1]
   ·split at h
    ·simp at h
    ·split at h
     ·simp at h; rw [← h.1]
     ·split at h
      ·simp at h
      ·rename_i s1 e1 ho
       split at h
       ·simp at h
       ·rename_i s2 e2 hb
        simp at h
        have q1 := (q.op ho).1
        have n1 := (op_well q.well q.own ho).2.2.2.2.1
        have n2 := behindX_seq q1 hb
        rw [← h.1, n2, n1]
theorem loopX_seq {X : SetV} : ∀ {n : Nat} {s s' : CoreX} {e : List (List CV)}, Fit X s → loopX X n s = some (s', e) → s'.seq = s.seq
 | 0, s, s', e, _, h => by simp [loopX] at h
 | n + 1, s, s', e, q, h => by
   simp only [loopX] at h
   split at h
   ·simp at h; rw [← h.1]
   ·split at h
    ·simp at h
    ·rename_i z hz
     split at h
     ·rename_i hl
      split at h
      ·simp at h
      ·rename_i s2 e2 hb
       simp at h
       have q1 := (q.tick hz hl).1
       have n1 := (tickS_well q.well hz hl).2.2.2.2.1
       have n2 := behindX_seq q1 hb
       rw [← h.1, n2, n1]
     ·split at h
      ·simp at h
      ·rename_i s1 e1 ho
       split at h
       ·simp at h
       ·rename_i s2 e2 hb
        simp at h
        have q1 := (q.op ho).1
        have n1 := (op_well q.well q.own ho).2.2.2.2.1
        have n2 := loopX_seq q1 hb
        rw [← h.1, n2, n1]
def RnX (eb : Nat) (K : CoreW) (X : SetV) (n : Nat) (Q0 : Nat → Prop) (h0 : Heap) (lv : CV) (rows : List (List Int)) (s' : CoreX) (E : List (List CV)) (m : Nat) (e : Env) (h' : Heap) : Prop :=
 ∃ (i : Nat) (ov : CV) (s : CoreX) (evs rest : List (List CV)), i ≤ rows.length ∧ m = rows.length - i ∧ e = [(10, .ptr eb 0), (12, ov), (41, lv), (42, .int .i64 rows.length), (43, .int .i64 i)] ∧ TkX K eb X Q0 h0 s ov evs h' ∧
  dayX X n (rows.drop i) s = some (s', rest) ∧ E = evs ++ rest ∧ Fit X s ∧ s.now = i ∧ 0 ≤ s.seq ∧ s.seq ≤ 64 * i
theorem runX (la : LA p p') {h : Heap} {P : Nat → Prop} {x : SetV} {tv lv : CV} {rows : List (List Int)} {k n : Nat} {s' : CoreX} {E : List (List CV)} (st : Sl taskC h P tv x.tasks) (hl : x.locks = k) (hk8 : k ≤ 8) (hc : x.chans = []) (hP : ∀ b, P b → b < h.length) (hs : x.Sane) (hok : (setP x).2 = 0) (hlk : ∀ t ∈ x.tasks, (locksL t.prog).length ≤ 1) (hT : TasksOk x.tasks) (h12 : x.tasks.length ≤ 12)
  (ls : Sl (.sl (.int .i64)) h P lv rows) (hn : rows.length ≤ 300) (hck : checkS rows = (0, 0)) (hw : ∀ r ∈ rows, r.length ≤ 64) (hd : dayX x n rows (coreX0 x) = some (s', E)) (hE : E.length ≤ 1000) :
  WF p 436 [.agg [.int .i64 k, .nils, tv], lv] h fun r h' => ∃ v, r = .tup [v, .int .i64 0] ∧ Keep NoneOf h h' ∧ Sl evtC h' (From h) v E := by
 have lp := la.lp
 refine WF_of (by rw [lp.pg]; exact S.pg436) (lp.no ⟨rfl, rfl⟩) ?_
 show W p S.b436 _ _ (retQ [.t 4, .t 5] _)
 unfold S.b436
 have hca : ∀ l, (CV.agg l).cells = l := fun _ => rfl
 have kap := Keep.app NoneOf h [.arr [.int .i64 k, .nils, tv] .tight]
 have g0 := get_new (h := h) (o := .arr [.int .i64 k, .nils, tv] .tight)
 have w0 := ldw g0 (n := 3) rfl
 have st1 := st.on kap
 have ls1 := ls.on kap
 have hl1 : (h ++ [Obj.arr [.int .i64 k, .nils, tv] .tight]).length = h.length + 1 := by simp
 have hz := (setOk hok).1
 simp [hca, w0]
 generalize h ++ [Obj.arr [.int .i64 k, .nils, tv] .tight] = H1 at *
 have rx1 : setC.rep H1 P [.int .i64 k, .nils, tv] x := ⟨.nils, tv, by rw [hl], by rw [hc]; exact Sl.nil, st1⟩
 refine (setCheck_spec lp rx1 hs).mono ?_
 rintro r h2 ⟨rfl, k2⟩
 rw [hz]
 simp
 refine (check_spec lp.pg (lp.no ⟨rfl, rfl⟩) (lp.no ⟨rfl, rfl⟩) (lp.no ⟨rfl, rfl⟩) (lp.no ⟨rfl, rfl⟩) (ls1.on k2) (by simp [big]; omega)).mono ?_
 rintro r h2' ⟨rfl, rfl⟩
 rw [hck]
 have w2 : loadAt h2' h.length 0 (some 3) = some (.agg [.int .i64 k, .nils, tv]) := ldw (k2.at g0 id) rfl
 simp [w2]
 refine (newY lp (x := x) (st1.on k2) hl hk8 hc (fun b hb => by have := hP b hb; have := k2.len; omega) hs hok hlk).mono ?_
 rintro r h3 ⟨k3, eb, K, cells, Q, rfl, c3, eg, eo, eq, hel, hown⟩
 have K3 : Keep NoneOf h h3 := (kap.trans k2).trans k3
 have ls3 := ls.on K3
 have n3 := ls3.len (by decide)
 have hPo : ∀ y, P y → ¬ K.own y := fun y hy o => by have := hP y hy; have := hown y o; have := k2.len; omega
 have hx1000 : x.locks ≤ 1000 := by omega
 simp [n3]
 refine W_loop (RnX eb K x n Q h3 lv rows s' E) ?_ rows.length ⟨0, .nils, coreX0 x, [], E, by omega, by omega, rfl, TkX.start c3 eg eo, hd, rfl, fit0 (by omega), rfl, by simp [coreX0], by simp [coreX0]⟩
 rintro m e h4 ⟨i, ov, s, evs, rest, hi, rfl, rfl, t4, hd4, hE4, fit4, now4, sq0, sq1⟩
 obtain ⟨Q4, cs4, c4, q4, q4'⟩ := t4.core
 by_cases hie : i = rows.length
 ·subst hie
  rw [List.drop_length] at hd4
  simp only [dayX, Option.some.injEq, Prod.mk.injEq] at hd4
  obtain ⟨rfl, rfl⟩ := hd4
  rw [List.append_nil] at hE4
  subst hE4
  have kk := t4.keep
  simp
  exact ⟨K3.then kk fun y hy o => by have := hown y o; have := k2.len; omega, t4.out.sl.mono fun b hb => hb.elim False.elim fun e => by have := t4.ob b e; have := K3.len; show h.length ≤ b; omega⟩
 have hlt : i < rows.length := by omega
 have hlt' : (i : Int) < rows.length := by omega
 have hw1 : IntKind.i64.wrap ((i : Int) + 1) = ((i + 1 : Nat) : Int) := by rw [w64 (by omega) (by omega)]; omega
 have hr1 := hw rows[i] (List.getElem_mem hlt)
 obtain ⟨b0, o0, row, x1, x2, x3, v1, rfl, s1⟩ := (ls3.keep t4.keep hPo).row (k := .i64) (by decide) hlt
 have x4 := x3 0 (by decide)
 simp at x4
 have x1' : idxAddrV 1 lv (.int .i64 (i : Int)) = some (.ptr b0 o0) := x1
 rw [List.drop_eq_getElem_cons hlt] at hd4
 simp only [dayX] at hd4
 cases hL : loopX x n (askLX x rows[i] s).1 with
 | none => rw [hL] at hd4; cases hd4
 | some q =>
 obtain ⟨s1', E1⟩ := q
 rw [hL] at hd4
 simp only at hd4
 cases hD : dayX x n (rows.drop (i + 1)) { s1' with now := s.now + 1 } with
 | none => rw [hD] at hd4; cases hd4
 | some q =>
 obtain ⟨s2, E2⟩ := q
 rw [hD] at hd4
 simp only [Option.some.injEq, Prod.mk.injEq] at hd4
 obtain ⟨rfl, rfl⟩ := hd4
 have hlen := congrArg List.length hE4
 simp only [List.length_append] at hlen
 have hbg : 1000 ≤ big := by simp [big]
 have fitA := askLX_fit (a := rows[i]) fit4 hT
 obtain ⟨fitS, nowS⟩ := loopX_fit fitA hL
 have seqS := loopX_seq fitA hL
 have seqA := askLX_seq (X := x) (a := rows[i]) (s := s)
 simp [hlt', x1', x4]
 refine (tickW la c4 t4.eg t4.eo.1 fit4 hT h12 hx1000 s1 hPo (by omega) (by omega) (by omega) hL (by omega)).mono ?_
 rintro r h5 ⟨v, rfl, n5, ev5⟩
 have t5 := t4.next c4 q4 q4' n5
 obtain ⟨cc, sp1, sp2⟩ := ev5.spread (by decide)
 have sp1 : spread h5 7 v = some (((askLX x rows[i] s).2 ++ E1).length, cc) := sp1
 simp [sp1]
 refine t5.app sp2 (by simp) (by omega) (by rw [List.length_append]; omega) fun ov6 h6 t6 _ => ?_
 simp [hw1]
 exact ⟨rows.length - (i + 1), by omega, i + 1, ov6, _, _, E2, by omega, rfl, rfl, t6, hD, by rw [hE4]; simp, fitS.time _, by show s.now + 1 = _; omega, by show 0 ≤ s1'.seq; omega, by show s1'.seq ≤ _; omega⟩
end Go.Cl
