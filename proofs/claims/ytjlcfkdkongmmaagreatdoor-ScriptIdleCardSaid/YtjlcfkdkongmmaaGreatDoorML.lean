/-
  Texts laid together: AScS AEnV AEnW.
-/
import Derived.Test.YtjlcfkdkongmmaaGreatDoorM4
import Derived.Test.YtjlcfkdkongmmaaGreatDoorMG
import Derived.Test.YtjlcfkdkongmmaaGreatDoorM5
import Derived.Test.YtjlcfkdkongmmaaGreatDoorS
import Derived.Test.YtjlcfkdkongmmaaGreatDoorMK
namespace Go.Cl
open Go
set_option linter.unusedSimpArgs false
set_option linter.unusedVariables false
set_option maxHeartbeats 1000000
variable {p : PP}
theorem bad_spec (hp : p.Pg 451 = some S.f451) (hq : p.pr 451 = none) {h : Heap} {x : Int} : WF p 451 [.int .i64 x] h fun r h' => r = .bool (badN x) ∧ h' = h := by
 refine WF_of hp hq ?_
 show W p S.b451 _ _ (retQ [.t 2] _)
 unfold S.b451
 by_cases h1 : x < -1
 ·simp [h1, badN]
 ·simp [h1, badN]
def IfInv (v : CV) (l : List Int) (h : Heap) (m : Nat) (e : Env) (h' : Heap) : Prop :=
 ∃ i : Nat, i ≤ l.length ∧ m = l.length - i ∧ e = [(0, v), (1, .fn 451 []), (7, .int .i64 l.length), (8, .int .i64 i)] ∧ h' = h ∧ (l.take i).any badN = false
theorem idxf_spec (hp : p.Pg = S.pg) (q455 : p.pr 455 = none) (q451 : p.pr 451 = none) {h : Heap} {v : CV} {l : List Int} {P : Nat → Prop} (s : Sl (.int .i64) h P v l) (hb : l.length ≤ big) :
  WF p 455 [v, .fn 451 []] h fun r h' => (∃ k : Int, r = .int .i64 k ∧ decide (0 ≤ k) = l.any badN) ∧ h' = h := by
 refine WF_of (by rw [hp]; exact S.pg455) q455 ?_
 show W p S.b455 _ _ (retQ [.t 4] _)
 unfold S.b455
 have n0 := s.len (by decide)
 simp [n0]
 refine W_loop (IfInv v l h) ?_ l.length ⟨0, by omega, by omega, rfl, rfl, rfl⟩
 rintro m e h' ⟨i, hi, rfl, rfl, rfl, ht⟩
 by_cases hia : i = l.length
 ·subst hia
  rw [List.take_length] at ht
  simp [ht]
 ·have hlt : i < l.length := by omega
  have hlt' : (i : Int) < l.length := by omega
  obtain ⟨b0, o0, x1, x2, x3⟩ := readI_idx (k' := .i64) s.ints hlt
  have hw : IntKind.i64.wrap ((i : Int) + 1) = ((i + 1 : Nat) : Int) := by
   simp [big] at hb
   rw [w64 (by omega) (by omega)]; omega
  simp [hlt', x1, x3]
  refine (bad_spec (by rw [hp]; exact S.pg451) q451).mono ?_
  rintro r h' ⟨rfl, rfl⟩
  cases hx : badN l[i] with
  | true =>
    have : l.any badN = true := List.any_eq_true.2 ⟨l[i], List.getElem_mem hlt, hx⟩
    simp [hx, this]
  | false =>
    simp [hx, hw]
    refine ⟨l.length - (i + 1), by omega, i + 1, by omega, rfl, rfl, rfl, ?_⟩
    rw [← List.take_append_getElem hlt, List.any_append, ht]
    simp [hx]
theorem cont_spec (hp : p.Pg = S.pg) (q452 : p.pr 452 = none) (q455 : p.pr 455 = none) (q451 : p.pr 451 = none) {h : Heap} {v : CV} {l : List Int} {P : Nat → Prop} (s : Sl (.int .i64) h P v l) (hb : l.length ≤ big) :
  WF p 452 [v, .fn 451 []] h fun r h' => r = .bool (l.any badN) ∧ h' = h := by
 refine WF_of (by rw [hp]; exact S.pg452) q452 ?_
 show W p S.b452 _ _ (retQ [.t 4] _)
 unfold S.b452
 simp
 refine (idxf_spec hp q455 q451 s hb).mono ?_
 rintro r h' ⟨⟨k, rfl, hk⟩, rfl⟩
 simp [← hk]
def CsInv (v : CV) (l : List (List Int)) (h : Heap) (m : Nat) (e : Env) (h' : Heap) : Prop :=
 ∃ i : Nat, i ≤ l.length ∧ m = l.length - i ∧ e = [(9, v), (10, .int .i64 l.length), (11, .int .i64 i)] ∧ h' = h ∧ checkL 0 l = checkL i (l.drop i)
theorem check_spec (hp : p.Pg = S.pg) (q447 : p.pr 447 = none) (q452 : p.pr 452 = none) (q455 : p.pr 455 = none) (q451 : p.pr 451 = none) {h : Heap} {v : CV} {l : List (List Int)} {P : Nat → Prop} (s : Sl (.sl (.int .i64)) h P v l) (hb : l.length ≤ big) :
  WF p 447 [v] h fun r h' => r = .tup [.int .i64 (checkS l).1, .int .i64 (checkS l).2] ∧ h' = h := by
 refine WF_of (by rw [hp]; exact S.pg447) q447 ?_
 show W p S.b447 _ _ (retQ [.t 2, .t 3] _)
 unfold S.b447
 have n0 := s.len (by decide)
 by_cases h1 : 4096 < l.length
 ·have h1' : (4096 : Int) < l.length := by omega
  simp [n0, h1', checkS, h1]
 have h1' : ¬ (4096 : Int) < l.length := by omega
 simp [n0, h1', checkS, h1]
 refine W_loop (CsInv v l h) ?_ l.length ⟨0, by omega, by omega, rfl, rfl, rfl⟩
 rintro m e h' ⟨i, hi, rfl, rfl, rfl, ht⟩
 by_cases hia : i = l.length
 ·subst hia
  rw [List.drop_length] at ht
  simp [ht, checkL]
 ·have hlt : i < l.length := by omega
  have hlt' : (i : Int) < l.length := by omega
  obtain ⟨b0, o0, row, x1, x2, x3, v1, rfl, s1⟩ := s.row (k := .i64) (by decide) hlt
  have x4 := x3 0 (by decide)
  simp at x4
  have x1' : idxAddrV 1 v (.int .i64 (i : Int)) = some (.ptr b0 o0) := x1
  have n1 := s1.len (by decide)
  have hw : IntKind.i64.wrap ((i : Int) + 1) = ((i + 1 : Nat) : Int) := by
   rw [w64 (by omega) (by omega)]; omega
  rw [List.drop_eq_getElem_cons hlt, checkL] at ht
  by_cases h2 : 64 < l[i].length
  ·have h2' : (64 : Int) < l[i].length := by omega
   rw [if_pos h2] at ht
   simp [hlt', x1', x4, n1, h2', ht]
  ·have h2' : ¬ (64 : Int) < l[i].length := by omega
   rw [if_neg h2] at ht
   simp [hlt', x1', x4, n1, h2']
   refine (cont_spec hp q452 q455 q451 s1 (by simp [big]; omega)).mono ?_
   rintro r h' ⟨rfl, rfl⟩
   cases hx : l[i].any badN with
   | true =>
     rw [if_pos hx] at ht
     simp [hx, ht]
   | false =>
     rw [if_neg (by simp [hx])] at ht
     simp [hx, hw]
     exact ⟨l.length - (i + 1), by omega, i + 1, by omega, rfl, rfl, rfl, ht⟩
def rowE (t : Int) (row : List Int) : List Ev := row.map (fun i => (t, 2, i, 3)) ++ [(t, 8, 0, 0)]
def idleE : Int → List (List Int) → List Ev
 | _, [] => []
 | t, row :: r => rowE t row ++ idleE (t + 1) r
theorem idleE_append : ∀ {a b : List (List Int)} {t : Int}, idleE t (a ++ b) = idleE t a ++ idleE (t + a.length) b
 | [], b, t => by simp [idleE]
 | x :: a, b, t => by
   rw [List.cons_append, idleE, idleE, idleE_append, List.append_assoc]
   rw [show t + 1 + (a.length : Int) = t + ((x :: a).length : Nat) by simp; omega]
theorem idleE_len : ∀ {a : List (List Int)} {t : Int} {w : Nat}, (∀ x ∈ a, x.length ≤ w) → (idleE t a).length ≤ (w + 1) * a.length
 | [], t, w, _ => by simp [idleE]
 | x :: a, t, w, h => by
   have h1 := h x List.mem_cons_self
   have h2 := idleE_len (t := t + 1) (a := a) fun y hy => h y (List.mem_cons_of_mem _ hy)
   rw [idleE, List.length_append, List.length_cons, Nat.mul_succ]
   simp [rowE]
   omega
theorem askL_none {l : List TaskV} {s : CoreS} : ∀ {row : List Int}, (∀ i ∈ row, i < 0 ∨ (l.length : Int) ≤ i) → askL l row s = (s, (row.map fun i => ((s.now, 2, i, 3) : Ev)).map evq)
 | [], _ => rfl
 | i :: r, h => by
   have h1 := h i List.mem_cons_self
   have he : askErr l s i = 3 := by
    unfold askErr askE
    rw [if_pos (by simpa using h1)]
   have hI : askI l s i = (s, evt s.now 2 i 3) := by
    unfold askI
    rw [he]
    rfl
   rw [askL, hI]
   simp only
   rw [askL_none fun j hj => h j (List.mem_cons_of_mem _ hj)]
   rfl
theorem dead_top {n : Nat} : topF (List.replicate n deadJ) = none := by
 unfold topF
 have : ∀ m, m ≤ n → topTo (List.replicate n deadJ) m = none := by
  intro m
  induction m with
  | zero => intro _; rfl
  | succ m ih =>
    intro hm
    simp only [topTo]
    rw [ih (by omega), List.getElem?_replicate_of_lt (by omega)]
    rfl
 rw [List.length_replicate]
 exact this n (Nat.le_refl _)
def idleS (n : Nat) (t : Int) : CoreS := ⟨List.replicate n deadJ, fun _ => none, 0, t, 0⟩
def RnI (eb : Nat) (K : CoreB) (T : List TaskV) (Q0 : Nat → Prop) (h0 : Heap) (lv : CV) (rows : List (List Int)) (m : Nat) (e : Env) (h' : Heap) : Prop :=
 ∃ (i : Nat) (ov : CV), i ≤ rows.length ∧ m = rows.length - i ∧ e = [(10, .ptr eb 0), (12, ov), (41, lv), (42, .int .i64 rows.length), (43, .int .i64 i)] ∧ TkI K eb T Q0 h0 (idleS T.length i) ov ((idleE 0 (rows.take i)).map evq) h'
theorem run436 (lp : LP p) {h : Heap} {P : Nat → Prop} {x : SetV} {tv lv : CV} {rows : List (List Int)} (st : Sl taskC h P tv x.tasks) (hl : x.locks = 0) (hc : x.chans = []) (hP : ∀ b, P b → b < h.length) (hs : x.Sane) (hok : (setP x).2 = 0) (hr : Rises x.tasks) (hT : TasksOk x.tasks) (h12 : x.tasks.length ≤ 12)
  (ls : Sl (.sl (.int .i64)) h P lv rows) (hn : rows.length ≤ 300) (hck : checkS rows = (0, 0)) (hw : ∀ r ∈ rows, r.length ≤ 3 ∧ ∀ i ∈ r, i < 0 ∨ (x.tasks.length : Int) ≤ i) :
  WF p 436 [.agg [.int .i64 0, .nils, tv], lv] h fun r h' => ∃ v, r = .tup [v, .int .i64 0] ∧ Keep NoneOf h h' ∧ Sl evtC h' (From h) v ((idleE 0 rows).map evq) := by
 refine WF_of (by rw [lp.pg]; exact S.pg436) (lp.no ⟨rfl, rfl⟩) ?_
 show W p S.b436 _ _ (retQ [.t 4, .t 5] _)
 unfold S.b436
 have hca : ∀ l, (CV.agg l).cells = l := fun _ => rfl
 have kap := Keep.app NoneOf h [.arr [.int .i64 0, .nils, tv] .tight]
 have g0 := get_new (h := h) (o := .arr [.int .i64 0, .nils, tv] .tight)
 have w0 := ldw g0 (n := 3) rfl
 have st1 := st.on kap
 have ls1 := ls.on kap
 have hl1 : (h ++ [Obj.arr [.int .i64 0, .nils, tv] .tight]).length = h.length + 1 := by simp
 have hz := (setOk hok).1
 simp [hca, w0]
 generalize h ++ [Obj.arr [.int .i64 0, .nils, tv] .tight] = H1 at *
 have rx1 : setC.rep H1 P [.int .i64 0, .nils, tv] x := ⟨.nils, tv, by rw [hl], by rw [hc]; exact Sl.nil, st1⟩
 refine (setCheck_spec lp rx1 hs).mono ?_
 rintro r h2 ⟨rfl, k2⟩
 rw [hz]
 simp
 refine (check_spec lp.pg (lp.no ⟨rfl, rfl⟩) (lp.no ⟨rfl, rfl⟩) (lp.no ⟨rfl, rfl⟩) (lp.no ⟨rfl, rfl⟩) (ls1.on k2) (by simp [big]; omega)).mono ?_
 rintro r h2' ⟨rfl, rfl⟩
 rw [hck]
 have w2 : loadAt h2' h.length 0 (some 3) = some (.agg [.int .i64 0, .nils, tv]) := ldw (k2.at g0 id) rfl
 simp [w2]
 refine (new441 lp (x := x) (st1.on k2) hl hc (fun b hb => by have := hP b hb; have := k2.len; omega) hs hok hr).mono ?_
 rintro r h3 ⟨k3, eb, K, cells, Q, rfl, c3, eg, eo, eq, hel, hown⟩
 have K3 : Keep NoneOf h h3 := (kap.trans k2).trans k3
 have ls3 := ls.on K3
 have n3 := ls3.len (by decide)
 have hPo : ∀ y, P y → ¬ K.own y := fun y hy o => by have := hP y hy; have := hown y o; have := k2.len; omega
 simp [n3]
 refine W_loop (RnI eb K x.tasks Q h3 lv rows) ?_ rows.length ⟨0, .nils, by omega, by omega, rfl, TkI.start c3 eg eo⟩
 rintro m e h4 ⟨i, ov, hi, rfl, rfl, t4⟩
 obtain ⟨Q4, cs4, c4, q4, q4'⟩ := t4.core
 by_cases hie : i = rows.length
 ·subst hie
  rw [List.take_length] at t4
  have kk := t4.keep
  simp
  exact ⟨K3.then kk fun y hy o => by have := hown y o; have := k2.len; omega, t4.out.sl.mono fun b hb => hb.elim False.elim fun e => by have := t4.ob b e; have := K3.len; show h.length ≤ b; omega⟩
 have hlt : i < rows.length := by omega
 have hlt' : (i : Int) < rows.length := by omega
 have hw1 : IntKind.i64.wrap ((i : Int) + 1) = ((i + 1 : Nat) : Int) := by rw [w64 (by omega) (by omega)]; omega
 obtain ⟨hr1, hr2⟩ := hw rows[i] (List.getElem_mem hlt)
 obtain ⟨b0, o0, row, x1, x2, x3, v1, rfl, s1⟩ := (ls3.keep t4.keep hPo).row (k := .i64) (by decide) hlt
 have x4 := x3 0 (by decide)
 simp at x4
 have x1' : idxAddrV 1 lv (.int .i64 (i : Int)) = some (.ptr b0 o0) := x1
 have hnone := askL_none (l := x.tasks) (s := idleS x.tasks.length i) hr2
 have hF : loopF 1 (askL x.tasks rows[i] (idleS x.tasks.length i)).1 = some (idleS x.tasks.length i, [evt i 8 0 0]) := by
  rw [hnone]
  simp [loopF, idleS, dead_top]
 have lE := ld t4.eg
 have hpl : Plain (idleS x.tasks.length i) := fun y hy => by rw [List.eq_of_mem_replicate hy]; exact PlainJ.dead
 simp [hlt', x1', x4]
 refine (tick442 lp c4 t4.eg t4.eo.1 hpl hT h12 s1 hPo (by omega) (by simp only [idleS]; omega) (by simp only [idleS]; omega) hF (by simp)).mono ?_
 rintro r h5 ⟨v, rfl, n5, ev5⟩
 have hE : (askL x.tasks rows[i] (idleS x.tasks.length i)).2 ++ [evt (idleS x.tasks.length i).now 8 0 0] = (rowE i rows[i]).map evq := by
  rw [hnone]
  simp [rowE, idleS]
  rfl
 have ev5' : Sl evtC h5 (From h4) v ((rowE i rows[i]).map evq) := by
  rw [← hE]; exact ev5
 have hS : (⟨(idleS x.tasks.length i).jobs, (idleS x.tasks.length i).f, (idleS x.tasks.length i).gn, (idleS x.tasks.length i).now + 1, (idleS x.tasks.length i).seq⟩ : CoreS) = idleS x.tasks.length ((i + 1 : Nat) : Int) := by
  simp [idleS]
 rw [hS] at n5
 have t5 := t4.next c4 q4 q4' n5
 obtain ⟨cc, sp1, sp2⟩ := ev5'.spread (by decide)
 have sp1 : spread h5 7 v = some (((rowE i rows[i]).map evq).length, cc) := sp1
 have hlen : ((rowE i rows[i]).map evq).length ≤ 4 := by simp [rowE]; omega
 have hlen2 : ((idleE 0 (rows.take i)).map evq).length ≤ 1200 := by
  have := idleE_len (a := rows.take i) (t := 0) (w := 3) fun y hy => (hw y (List.mem_of_mem_take hy)).1
  have hl : (rows.take i).length = i := by rw [List.length_take]; omega
  rw [hl] at this
  rw [List.length_map]; omega
 have htk : (idleE 0 (rows.take i)).map evq ++ (rowE i rows[i]).map evq = (idleE 0 (rows.take (i + 1))).map evq := by
  have hl : (rows.take i).length = i := by rw [List.length_take]; omega
  rw [← List.take_append_getElem hlt, idleE_append, List.map_append, hl]
  simp [idleE]
 simp [sp1]
 refine t5.app sp2 (by simp) (by simp only [big]; omega) (by simp only [big]; omega) fun ov6 h6 t6 _ => ?_
 rw [htk] at t6
 simp [hw1]
 exact ⟨rows.length - (i + 1), by omega, i + 1, ov6, by omega, rfl, rfl, t6⟩
def idRow (k : Int) (j : Nat) : List Int := if j % 3 = 0 then [k, -1] else []
def idSt (k : Int) (n i : Nat) : List (List Int) := (List.range n).map fun j => if j < i then idRow k j else []
@[simp] theorem idSt_length {k : Int} {n i : Nat} : (idSt k n i).length = n := by simp [idSt]
theorem idSt_get {k : Int} {n i j : Nat} (h : j < n) : (idSt k n i)[j]? = some (if j < i then idRow k j else []) := by simp [idSt, h]
theorem idSt_zero {k : Int} {n : Nat} : idSt k n 0 = List.replicate n [] := by
 refine List.ext_getElem? fun j => ?_
 by_cases h : j < n
 ·rw [idSt_get h]; simp [h]
 ·rw [List.getElem?_eq_none (by simp; omega), List.getElem?_eq_none (by simp; omega)]
theorem idSt_step {k : Int} {n i : Nat} (hi : i < n) : idSt k n (i + 1) = if i % 3 = 0 then (idSt k n i).set i [k, -1] else idSt k n i := by
 refine List.ext_getElem? fun j => ?_
 by_cases h : j < n
 ·rw [idSt_get h]
  by_cases hm : i % 3 = 0
  ·rw [if_pos hm]
   by_cases hj : i = j
   ·subst hj
    rw [List.getElem?_set_self (by simp; omega), if_pos (by omega)]
    simp [idRow, hm]
   ·rw [List.getElem?_set_ne hj, idSt_get h]
    by_cases hl : j < i
    ·rw [if_pos hl, if_pos (by omega)]
    ·rw [if_neg hl, if_neg (by omega)]
  ·rw [if_neg hm, idSt_get h]
   by_cases hj : i = j
   ·subst hj
    rw [if_pos (by omega), if_neg (by omega)]
    simp [idRow, hm]
   ·by_cases hl : j < i
    ·rw [if_pos hl, if_pos (by omega)]
    ·rw [if_neg hl, if_neg (by omega)]
 ·rw [List.getElem?_eq_none (by simp; omega), List.getElem?_eq_none (by split <;> simp <;> omega)]
theorem idSt_mem {k : Int} {n i : Nat} : ∀ r ∈ idSt k n i, r = [] ∨ r = [k, -1] := by
 intro r hr
 obtain ⟨j, _, rfl⟩ := List.mem_map.1 hr
 split
 ·unfold idRow; split
  ·exact .inr rfl
  ·exact .inl rfl
 ·exact .inl rfl
theorem checkL_good : ∀ {l : List (List Int)} {i : Nat}, (∀ r ∈ l, r.length ≤ 64 ∧ r.any badN = false) → checkL i l = (0, 0)
 | [], i, _ => rfl
 | r :: l, i, h => by
   obtain ⟨h1, h2⟩ := h r List.mem_cons_self
   rw [checkL, if_neg (by omega), if_neg (by simp [h2]), checkL_good fun x hx => h x (List.mem_cons_of_mem _ hx)]
def idSet : SetV := ⟨0, [], [⟨[97], 5, 5, 5, [⟨1, 1, 0, 0, []⟩]⟩]⟩
theorem idSet_ok : (setP idSet).2 = 0 ∧ idSet.Sane ∧ Rises idSet.tasks ∧ TasksOk idSet.tasks := by
 refine ⟨by decide, ⟨fun t ht => ?_, by simp [idSet], by simp [idSet, big]⟩, fun i h => ?_, fun t ht => ?_⟩
 ·simp only [idSet, List.mem_singleton] at ht
  subst ht
  simp [big]
 ·simp [idSet] at h
 ·simp only [idSet, List.mem_singleton] at ht
  subst ht
  simp
theorem idSet_rep {h : Heap} {b0 b1 : Nat} (g0 : h[b0]? = some (.arr [.int .i64 1, .int .i64 1, .int .i64 0, .int .i64 0, .nils] .tight)) (g1 : h[b1]? = some (.arr [.str [97], .int .i64 5, .int .i64 5, .int .i64 5, .sl b0 0 1 1] .tight)) :
  Sl taskC h (fun b => b < h.length) (.sl b1 0 1 1) idSet.tasks := by
 have so : Sl opC h (fun b => b < h.length) (.sl b0 0 1 1) [⟨1, 1, 0, 0, []⟩] := by
  have m : Mine h 5 (.sl b0 0 1 1) [.int .i64 1, .int .i64 1, .int .i64 0, .int .i64 0, .nils] := .inr ⟨b0, 1, .tight, rfl, rfl, .inl rfl, g0⟩
  exact ⟨_, m.read, ⟨m.ok, fun b hb => by simp [CV.blk] at hb; subst hb; exact lt_of_get g0⟩, Rows.one (e := opC) ⟨.nils, rfl, Sl.nil⟩⟩
 have m : Mine h 5 (.sl b1 0 1 1) [.str [97], .int .i64 5, .int .i64 5, .int .i64 5, .sl b0 0 1 1] := .inr ⟨b1, 1, .tight, rfl, rfl, .inl rfl, g1⟩
 exact ⟨_, m.read, ⟨m.ok, fun b hb => by simp [CV.blk] at hb; subst hb; exact lt_of_get g1⟩, Rows.one (e := taskC) ⟨.sl b0 0 1 1, rfl, so⟩⟩
theorem idleE_at {rows : List (List Int)} {i : Nat} (hi : i < rows.length) : idleE 0 rows = idleE 0 (rows.take i) ++ (rowE i rows[i] ++ idleE (i + 1) (rows.drop (i + 1))) := by
 have hl : (rows.take i).length = i := by rw [List.length_take]; omega
 conv => lhs; rw [← List.take_append_drop i rows, idleE_append, List.drop_eq_getElem_cons hi, idleE, hl]
 simp
def IdA (sb : Nat) (k : Int) (n B : Nat) (H : Heap) (m : Nat) (e : Env) (h' : Heap) : Prop :=
 ∃ (i : Nat) (cells : List CV), i ≤ n ∧ m = n - i ∧ e = [(5, .ptr sb 0), (6, .int .i64 k), (7, .sl B 0 n n), (8, .int .i64 i)] ∧ Keep (fun b => b = B) H h' ∧ h'[B]? = some (.arr cells .tight) ∧ Rows (.sl (.int .i64)) h' (fun b => B < b) cells (idSt k n i)
def IdB (lv v : CV) (rows : List (List Int)) (h : Heap) (m : Nat) (e : Env) (h' : Heap) : Prop :=
 ∃ i : Nat, i ≤ rows.length ∧ m = rows.length - i ∧ e = [(7, lv), (9, v), (11, .int .i64 ((idleE 0 (rows.take i)).length : Nat)), (12, .int .i64 i)] ∧ h' = h
def IdC (lv v : CV) (rows : List (List Int)) (i w : Nat) (h : Heap) (m : Nat) (e : Env) (h' : Heap) : Prop :=
 ∃ j : Nat, j ≤ w ∧ m = w - j ∧ e = [(7, lv), (9, v), (11, .int .i64 ((idleE 0 (rows.take i)).length + j : Nat)), (12, .int .i64 i), (13, .int .i64 j)] ∧ h' = h
theorem idle_law (lp : LP p) {l : List Nat} {pr : Prims} (hpr : p.pr = addKnown l pr) (h457 : l.contains 457 = true) {h : Heap} {x0 x1 : Int} (h0 : 0 ≤ x0) (h0' : x0 ≤ 255) (h1 : 0 ≤ x1) (h1' : x1 ≤ 255) :
  WF p 474 [.int .u8 x0, .int .u8 x1] h fun r h' => r = .bool true := by
 refine WF_of (by rw [lp.pg]; exact S.pg474) (lp.no ⟨rfl, rfl⟩) ?_
 show W p S.b474 _ _ (retQ [.t 4] _)
 unfold S.b474
 simp
 refine WF_known hpr h457 ?_
 have f1 : fillC [.int .i64 0, .int .i64 0, .int .i64 0, .int .i64 0, .nils] [(0, 1, .int .i64 1), (1, 1, .int .i64 1)] = some [.int .i64 1, .int .i64 1, .int .i64 0, .int .i64 0, .nils] := rfl
 have f2 : fillC [.int .i64 0, .int .i64 0, .int .i64 0, .int .i64 0, .nils] [(0, 5, .agg [.int .i64 1, .int .i64 1, .int .i64 0, .int .i64 0, .nils])] = some [.int .i64 1, .int .i64 1, .int .i64 0, .int .i64 0, .nils] := rfl
 have f3 : fillC [.str [], .int .i64 0, .int .i64 0, .int .i64 0, .nils] [(0, 1, .str [97]), (1, 1, .int .i64 5), (2, 1, .int .i64 5), (3, 1, .int .i64 5), (4, 1, .sl h.length 0 1 1)] = some [.str [97], .int .i64 5, .int .i64 5, .int .i64 5, .sl h.length 0 1 1] := rfl
 have f4 : fillC [.str [], .int .i64 0, .int .i64 0, .int .i64 0, .nils] [(0, 5, .agg [.str [97], .int .i64 5, .int .i64 5, .int .i64 5, .sl h.length 0 1 1])] = some [.str [97], .int .i64 5, .int .i64 5, .int .i64 5, .sl h.length 0 1 1] := rfl
 have f5 : fillC [.int .i64 0, .nils, .nils] [(2, 1, .sl (h.length + 1) 0 1 1)] = some [.int .i64 0, .nils, .sl (h.length + 1) 0 1 1] := rfl
 have hca : ∀ l, (CV.agg l).cells = l := fun _ => rfl
 have hm0 : x1.tmod 12 = x1 % 12 := Int.tmod_eq_emod_of_nonneg h1
 have hm1 : IntKind.u8.wrap (x1 % 12) = x1 % 12 := wrap_u8 (by omega) (by omega)
 have hm2 : IntKind.i64.wrap (x1 % 12) = x1 % 12 := w64 (by omega) (by omega)
 have hm3 : IntKind.i64.wrap (1 + x1 % 12) = 1 + x1 % 12 := w64 (by omega) (by omega)
 have hm4 : IntKind.i64.wrap x0 = x0 := w64 (by omega) (by omega)
 have hm5 : (x0.toNat : Int) = x0 := by omega
 obtain ⟨n, rfl⟩ : ∃ n : Nat, x0 = n := ⟨x0.toNat, hm5.symm⟩
 obtain ⟨k, hk⟩ : ∃ k, 1 + x1 % 12 = k := ⟨_, rfl⟩
 have hbig : n ≤ big := by simp [big]; omega
 have hm6 : IntKind.i64.wrap k = k := w64 (by omega) (by omega)
 simp [f1, f2, f3, f4, f5, hca, hm0, hm1, hm2, hm6, hm4, storeAt, splice, hbig, hk]
 have g0 : (h ++ [Obj.arr [.int .i64 1, .int .i64 1, .int .i64 0, .int .i64 0, .nils] .tight, .arr [.str [97], .int .i64 5, .int .i64 5, .int .i64 5, .sl h.length 0 1 1] .tight, .arr [.int .i64 0, .nils, .sl (h.length + 1) 0 1 1] .tight, .arr (List.replicate n .nils) .tight])[h.length]? = some (.arr [.int .i64 1, .int .i64 1, .int .i64 0, .int .i64 0, .nils] .tight) := by simp
 have g1 : (h ++ [Obj.arr [.int .i64 1, .int .i64 1, .int .i64 0, .int .i64 0, .nils] .tight, .arr [.str [97], .int .i64 5, .int .i64 5, .int .i64 5, .sl h.length 0 1 1] .tight, .arr [.int .i64 0, .nils, .sl (h.length + 1) 0 1 1] .tight, .arr (List.replicate n .nils) .tight])[h.length + 1]? = some (.arr [.str [97], .int .i64 5, .int .i64 5, .int .i64 5, .sl h.length 0 1 1] .tight) := by simp
 have g2 : (h ++ [Obj.arr [.int .i64 1, .int .i64 1, .int .i64 0, .int .i64 0, .nils] .tight, .arr [.str [97], .int .i64 5, .int .i64 5, .int .i64 5, .sl h.length 0 1 1] .tight, .arr [.int .i64 0, .nils, .sl (h.length + 1) 0 1 1] .tight, .arr (List.replicate n .nils) .tight])[h.length + 2]? = some (.arr [.int .i64 0, .nils, .sl (h.length + 1) 0 1 1] .tight) := by simp
 have g3 : (h ++ [Obj.arr [.int .i64 1, .int .i64 1, .int .i64 0, .int .i64 0, .nils] .tight, .arr [.str [97], .int .i64 5, .int .i64 5, .int .i64 5, .sl h.length 0 1 1] .tight, .arr [.int .i64 0, .nils, .sl (h.length + 1) 0 1 1] .tight, .arr (List.replicate n .nils) .tight])[h.length + 3]? = some (.arr (List.replicate n .nils) .tight) := by simp
 generalize h ++ [Obj.arr [.int .i64 1, .int .i64 1, .int .i64 0, .int .i64 0, .nils] .tight, .arr [.str [97], .int .i64 5, .int .i64 5, .int .i64 5, .sl h.length 0 1 1] .tight, .arr [.int .i64 0, .nils, .sl (h.length + 1) 0 1 1] .tight, .arr (List.replicate n .nils) .tight] = H4 at *
 have st4 := idSet_rep g0 g1
 refine W_loop (IdA (h.length + 2) k n (h.length + 3) H4) ?_ n ⟨0, List.replicate n .nils, by omega, by omega, rfl, Keep.refl _ _, g3, ?_⟩
 case refine_2 =>
  rw [idSt_zero]
  refine ⟨by simp [Cod.sl], fun i x hx => ?_⟩
  have hi : i < n := by
   have := (List.getElem?_eq_some_iff.1 hx).1
   simpa using this
  simp [hi] at hx
  subst hx
  refine ⟨.nils, ?_, Sl.nil⟩
  show ((List.replicate n CV.nils).drop (i * 1)).take 1 = _
  rw [Nat.mul_one, List.drop_eq_getElem_cons (by simpa using hi)]
  simp
 rintro m e h5 ⟨i, cells, hi, rfl, rfl, k5, gB, rw5⟩
 have hcl : cells.length = n := by have := rw5.1; simpa [Cod.sl] using this
 by_cases hin : i = n
 case neg =>
  have hlt : i < n := by omega
  have hlt' : (i : Int) < n := by omega
  have hw1 : IntKind.i64.wrap ((i : Int) + 1) = ((i + 1 : Nat) : Int) := by rw [w64 (by omega) (by omega)]; omega
  obtain ⟨q, hq⟩ : ∃ q, i % 3 = q := ⟨_, rfl⟩
  have hmd : (i : Int).tmod 3 = (q : Int) := by rw [Int.tmod_eq_emod_of_nonneg (by omega)]; omega
  have hst := idSt_step (k := k) hlt
  rw [hq] at hst
  by_cases hm : q = 0
  ·rw [if_pos hm] at hst
   have f6 : fillC [.int .i64 0, .int .i64 0] [(0, 1, .int .i64 k), (1, 1, .int .i64 (-1))] = some [.int .i64 k, .int .i64 (-1)] := rfl
   have kA := Keep.app NoneOf h5 [.arr [.int .i64 k, .int .i64 (-1)] .tight]
   have gA := kA.at gB id
   have hB := lt_of_get gB
   have s1 := sto1 gA (o := i) (v := .sl h5.length 0 2 2) (by omega) rfl
   have kS : Keep (fun b => b = h.length + 3) (h5 ++ [Obj.arr [.int .i64 k, .int .i64 (-1)] .tight]) ((h5 ++ [Obj.arr [.int .i64 k, .int .i64 (-1)] .tight]).set (h.length + 3) (.arr (cells.set i (.sl h5.length 0 2 2)) .tight)) := Keep.set _ _ rfl
   have sN : Sl (.int .i64) ((h5 ++ [Obj.arr [.int .i64 k, .int .i64 (-1)] .tight]).set (h.length + 3) (.arr (cells.set i (.sl h5.length 0 2 2)) .tight)) (fun b => h.length + 3 < b) (.sl h5.length 0 2 2) [k, -1] := by
    have m : Mine (h5 ++ [Obj.arr [.int .i64 k, .int .i64 (-1)] .tight]) 1 (.sl h5.length 0 2 2) [.int .i64 k, .int .i64 (-1)] := .inr ⟨h5.length, 2, .tight, rfl, rfl, .inl rfl, get_new⟩
    have : Sl (.int .i64) (h5 ++ [Obj.arr [.int .i64 k, .int .i64 (-1)] .tight]) (fun b => h.length + 3 < b) (.sl h5.length 0 2 2) [k, -1] := ⟨_, m.read, ⟨m.ok, fun b hb => by simp [CV.blk] at hb; subst hb; exact hB⟩, rows_ints.2 rfl⟩
    exact this.keep kS fun b hb => by omega
   have rN := rows_set (((rw5.keep kA fun _ _ => id).keep kS fun b hb => by omega)) (i := i) (x := [k, -1]) (by simpa using hlt) (row := [.sl h5.length 0 2 2]) ⟨_, rfl, sN⟩
   rw [← hst, show i * (Cod.sl (Cod.int .i64)).n = i from Nat.mul_one i, splice_set (by omega)] at rN
   simp [hlt, hlt', hmd, hm, f6, hw1, s1]
   refine ⟨n - (i + 1), by omega, i + 1, cells.set i (.sl h5.length 0 2 2), by omega, rfl, rfl, (k5.then kA fun _ _ => False.elim).trans kS, get_set_self (lt_of_get gA), rN⟩
  ·rw [if_neg hm] at hst
   simp [hlt, hlt', hmd, hm, hw1]
   exact ⟨n - (i + 1), by omega, i + 1, cells, by omega, rfl, rfl, k5, gB, by rw [hst]; exact rw5⟩
 subst hin
 have ls : Sl (.sl (.int .i64)) h5 (fun b => b < h5.length) (.sl (h.length + 3) 0 i i) (idSt k i i) := by
  refine ⟨cells, .inr ⟨h.length + 3, 0, i, i, _, _, rfl, ?_, gB, ?_, ?_⟩, ⟨Nat.le_refl _, fun b hb => ?_⟩, ?_⟩
  ·simpa [Cod.sl] using hcl
  ·simp [Cod.sl, hcl]
  ·rw [List.drop_zero, List.take_of_length_le (by simp [Cod.sl, hcl])]
  ·simp [CV.blk] at hb; subst hb; exact lt_of_get gB
  ·exact rw5.lt.mono fun b hb => hb.2
 have s5 : Sl taskC h5 (fun b => b < h5.length) (.sl (h.length + 1) 0 1 1) idSet.tasks := idSet_rep (k5.at g0 (by omega)) (k5.at g1 (by omega))
 have l2 := ldw (k5.at g2 (by omega)) (n := 3) rfl
 generalize hrows : idSt k i i = rows at *
 have hrl : rows.length = i := by rw [← hrows]; simp
 have hrm : ∀ r ∈ rows, r = [] ∨ r = [k, -1] := by rw [← hrows]; exact idSt_mem
 have hck : checkS rows = (0, 0) := by
  unfold checkS
  rw [if_neg (by omega)]
  refine checkL_good fun r hr => ?_
  rcases hrm r hr with rfl | rfl
  ·simp
  ·refine ⟨by simp, ?_⟩
   simp [badN]
   omega
 obtain ⟨ok1, ok2, ok3, hT⟩ := idSet_ok
 simp [l2]
 refine (run436 lp s5 rfl rfl (fun _ hb => hb) ok2 ok1 ok3 hT (by simp [idSet]) ls (by omega) hck ?_).mono ?_
 ·intro r hr
  rcases hrm r hr with rfl | rfl
  ·simp
  ·simp [idSet]
   omega
 rintro r h6 ⟨v, rfl, k6, ev⟩
 have ls6 := ls.on k6
 have n7 := ls6.len (by decide)
 have n9 := ev.len (by decide)
 simp
 refine W_loop (IdB (.sl (h.length + 3) 0 i i) v rows h6) ?_ rows.length ⟨0, by omega, by omega, by simp [idleE], rfl⟩
 rintro m e h7 ⟨a, ha, rfl, rfl, rfl⟩
 obtain ⟨EQ, hEQ⟩ : ∃ EQ, idleE 0 rows = EQ := ⟨_, rfl⟩
 have hEl : EQ.length ≤ 1200 := by
  have := idleE_len (a := rows) (t := 0) (w := 2) fun r hr => by rcases hrm r hr with rfl | rfl <;> simp
  rw [hEQ] at this
  omega
 rw [hEQ] at ev n9
 rw [List.length_map] at n9
 have evAt : ∀ (t : Nat) (q : Ev), EQ[t]? = some q → ∃ b o, idxAddrV 7 v (.int .i64 (t : Int)) = some (.ptr b o) ∧ loadAt h7 b o none = some (.int .i64 q.1) ∧ loadAt h7 b (o + 1) none = some (.int .i64 q.2.1) ∧ loadAt h7 b (o + 2) none = some (.int .i64 q.2.2.1) ∧ loadAt h7 b (o + 4) none = some (.int .i64 q.2.2.2) := by
  intro t q hq
  obtain ⟨hlt, rfl⟩ := List.getElem?_eq_some_iff.1 hq
  obtain ⟨b0, o0, row, x1, x2, x3, x4⟩ := ev.row (k := .i64) (by decide) (i := t) (by simpa using hlt)
  obtain ⟨x4, _, _⟩ := x4
  simp only [List.getElem_map] at x4
  subst x4
  exact ⟨b0, o0, x1, x3 0 (by decide), x3 1 (by decide), x3 2 (by decide), x3 4 (by decide)⟩
 by_cases hae : a = rows.length
 ·subst hae
  rw [List.take_length, hEQ]
  simp [n7, n9]
 have hlt : a < rows.length := by omega
 have hlt' : (a : Int) < rows.length := by omega
 have hsp := idleE_at hlt
 rw [hEQ] at hsp
 obtain ⟨b0, o0, row, x1, x2, x3, v1, rfl, s1⟩ := ls6.row (k := .i64) (by decide) hlt
 have x1 : idxAddrV 1 (.sl (h.length + 3) 0 i i) (.int .i64 (a : Int)) = some (.ptr b0 o0) := x1
 have x4 : loadAt h7 b0 o0 none = some v1 := x3 0 (by decide)
 have n1 := s1.len (by decide)
 have hnx : (idleE 0 (rows.take (a + 1))).length = (idleE 0 (rows.take a)).length + rows[a].length + 1 := by
  rw [← List.take_append_getElem hlt, idleE_append, List.length_append]
  simp [idleE, rowE]
  omega
 obtain ⟨A, hA⟩ : ∃ A, (idleE 0 (rows.take a)).length = A := ⟨_, rfl⟩
 have hAl : A + rows[a].length < EQ.length := by
  rw [hsp]; simp [rowE, hA]
 have rl2 : rows[a].length ≤ 2 := by rcases hrm rows[a] (List.getElem_mem hlt) with e | e <;> rw [e] <;> simp
 rw [hA] at hnx
 simp [n7, hlt', hlt]
 refine W_loop (IdC (.sl (h.length + 3) 0 i i) v rows a rows[a].length h7) ?_ rows[a].length ⟨0, by omega, by omega, by simp [hA], rfl⟩
 rintro m e h8 ⟨j, hj, rfl, rfl, rfl⟩
 rw [hA]
 generalize CV.sl (h.length + 3) 0 i i = lv at *
 by_cases hjw : j = rows[a].length
 ·have he : EQ[A + j]? = some ((a : Int), 8, 0, 0) := by
   rw [hsp, List.getElem?_append_right (by omega), hA, show A + j - A = j by omega, List.getElem?_append_left (by simp [rowE]; omega), rowE, List.getElem?_append_right (by simp; omega)]
   simp [hjw]
  obtain ⟨b, o, y, y0, y1, y2, y4⟩ := evAt _ _ he
  have hlt2 : ¬ EQ.length ≤ A + j := by omega
  have hlt3 : ¬ (EQ.length : Int) ≤ (A : Int) + j := by omega
  have hw1 : IntKind.i64.wrap ((a : Int) + 1) = (a : Int) + 1 := by rw [w64 (by omega) (by omega)]
  have hw2 : IntKind.i64.wrap ((A : Int) + j + 1) = (A : Int) + j + 1 := by rw [w64 (by omega) (by omega)]
  have hj2 : ¬ j < rows[a].length := by omega
  have hj3 : ¬ (j : Int) < rows[a].length := by omega
  simp at y
  simp [x1, x4, n1, hj2, hj3, n9, hlt2, hlt3, y, y0, y1, hw1, hw2]
  refine ⟨rows.length - (a + 1), by omega, a + 1, by omega, rfl, ?_, rfl⟩
  rw [hnx, hjw]
  simp
 ·have hjl : j < rows[a].length := by omega
  have hjl' : (j : Int) < rows[a].length := by omega
  have he : EQ[A + j]? = some ((a : Int), 2, rows[a][j], 3) := by
   rw [hsp, List.getElem?_append_right (by omega), hA, show A + j - A = j by omega, List.getElem?_append_left (by simp [rowE]; omega), rowE, List.getElem?_append_left (by simpa using hjl)]
   simp [hjl]
  obtain ⟨b, o, y, y0, y1, y2, y4⟩ := evAt _ _ he
  obtain ⟨b2, o2, z1, z2, z3⟩ := readI_idx (k' := .i64) s1.ints hjl
  have hlt2 : ¬ EQ.length ≤ A + j := by omega
  have hlt3 : ¬ (EQ.length : Int) ≤ (A : Int) + j := by omega
  have hw1 : IntKind.i64.wrap ((j : Int) + 1) = (j : Int) + 1 := by rw [w64 (by omega) (by omega)]
  have hw2 : IntKind.i64.wrap ((A : Int) + j + 1) = (A : Int) + j + 1 := by rw [w64 (by omega) (by omega)]
  simp at y
  simp [x1, x4, n1, hjl, hjl', n9, hlt2, hlt3, y, y0, y1, y2, y4, z1, z3, hw1, hw2]
  refine ⟨rows[a].length - (j + 1), by omega, j + 1, by omega, rfl, ?_, rfl⟩
  rw [hA]
  simp
  omega
end Go.Cl
