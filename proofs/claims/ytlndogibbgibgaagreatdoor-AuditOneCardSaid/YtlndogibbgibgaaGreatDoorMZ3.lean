/-
  Texts laid together: AAoX.
-/
import Derived.Test.YtlndogibbgibgaaGreatDoorMZ2
namespace Go.Cl
open Go
set_option linter.unusedSimpArgs false
set_option linter.unusedVariables false
set_option maxHeartbeats 2000000
variable {p : PP}
theorem one_logsDay {c b p r : Int} (N : OneN c b p r) : ∀ {n : Nat} {t d : Int} {s : LogS}, OneL c b p r t d s → (t = 0 ∨ 1 ≤ d ∧ d ≤ p) → 0 ≤ t → t + n ≤ 900 →
  ∃ s' d', logsF [1] (oneDay c b p r n t d) s = some s' ∧ OneL c b p r (t + n) d' s' ∧ (t + n = 0 ∨ 1 ≤ d' ∧ d' ≤ p)
 | 0, t, d, s, L, hd, h0, h1 => ⟨s, d, rfl, by simpa using L, by simpa using hd⟩
 | n + 1, t, d, s, L, hd, h0, h1 => by
   obtain ⟨s1, e1, L1⟩ := one_logs N L hd ⟨h0, by omega⟩
   have hN := N
   obtain ⟨c1, c12, b1, b15, pc, pb, p40, hr⟩ := hN
   have hd1 : t + 1 = 0 ∨ 1 ≤ (if t = 0 ∨ d = p then (1 : Int) else d + 1) ∧ (if t = 0 ∨ d = p then (1 : Int) else d + 1) ≤ p := by
    right
    by_cases h : t = 0 ∨ d = p
    ·rw [if_pos h]; omega
    ·rw [if_neg h]
     have h2 : ¬ t = 0 := fun e => h (.inl e)
     have h3 : ¬ d = p := fun e => h (.inr e)
     omega
   obtain ⟨s2, d2, e2, L2, hd2⟩ := one_logsDay N (n := n) L1 hd1 (by omega) (by omega)
   have e3 : t + 1 + (n : Int) = t + ((n + 1 : Nat) : Int) := by omega
   rw [e3] at L2 hd2
   exact ⟨s2, d2, by rw [oneDay, logsF_app e1]; exact e2, L2, hd2⟩
def worstStep (w : List Int) (x : LogV) : List Int := if x.ended = true ∧ 0 ≤ x.task ∧ x.task < w.length then w.set x.task.toNat (max (w.getD x.task.toNat 0) (IntKind.i64.wrap (x.fin - x.begin))) else w
def worstF (n : Nat) (l : List LogV) : List Int := l.foldl worstStep (List.replicate n 0)
@[simp] theorem worstStep_length {w : List Int} {x : LogV} : (worstStep w x).length = w.length := by unfold worstStep; split <;> simp
theorem worst_take {n : Nat} {l : List LogV} {i : Nat} (hi : i < l.length) : worstF n (l.take (i + 1)) = worstStep (worstF n (l.take i)) l[i] := by
 unfold worstF
 rw [← List.take_append_getElem hi, List.foldl_append]
 rfl
@[simp] theorem worstF_length {n : Nat} {l : List LogV} : (worstF n l).length = n := by
 unfold worstF
 have : ∀ (l : List LogV) (w : List Int), (l.foldl worstStep w).length = w.length := by
  intro l
  induction l with
  | nil => intro w; rfl
  | cons x l ih => intro w; rw [List.foldl_cons, ih]; simp
 rw [this]; simp
def WoI (B n : Nat) (lv : CV) (l : List LogV) (h : Heap) (m : Nat) (e : Env) (h' : Heap) : Prop :=
 ∃ i : Nat, i ≤ l.length ∧ m = l.length - i ∧ e = [(5, .sl B 0 n n), (12, lv), (13, .int .i64 l.length), (14, .int .i64 i)] ∧ Keep NoneOf h h' ∧ h'[B]? = some (.arr (ints .i64 (worstF n (l.take i))) .tight)
theorem worst478 (lp : LP p) {h : Heap} {P P' : Nat → Prop} {x : SetV} {c : List CV} {lv : CV} {l : List LogV} (rx : setC.rep h P c x) (h12 : x.tasks.length ≤ 12) (ls : Sl logC h P' lv l) (hl : l.length ≤ 100000) :
  WF p 478 [.agg c, lv] h fun r h' => ∃ B, r = .sl B 0 x.tasks.length x.tasks.length ∧ Keep NoneOf h h' ∧ h'[B]? = some (.arr (ints .i64 (worstF x.tasks.length l)) .tight) := by
 refine WF_of (by rw [lp.pg]; exact S.pg478) (lp.no ⟨rfl, rfl⟩) ?_
 show W p S.b478 _ _ (retQ [.t 4] _)
 unfold S.b478
 have hca : ∀ l, (CV.agg l).cells = l := fun _ => rfl
 obtain ⟨cv, tv, rfl, s1, s2⟩ := rx
 have kap := Keep.app NoneOf h [.arr [.int .i64 x.locks, cv, tv] .tight]
 have g0 := get_new (h := h) (o := .arr [.int .i64 x.locks, cv, tv] .tight)
 have l0 := ld g0
 have n0 := (s2.on kap).len (by decide)
 have hl0 : (h ++ [Obj.arr [.int .i64 x.locks, cv, tv] .tight]).length = h.length + 1 := by simp
 have hcnd : (0 : Int) ≤ (x.tasks.length : Int) ∧ (x.tasks.length : Int) ≤ (big : Int) := by simp [big]; omega
 simp [hca]
 generalize h ++ [Obj.arr [.int .i64 x.locks, cv, tv] .tight] = H0 at *
 simp [l0, n0]
 have hb2 : x.tasks.length ≤ big := by simp [big]; omega
 have ls1 := ((ls.on kap).on (Keep.app NoneOf H0 [.arr (List.replicate x.tasks.length (.int .i64 0)) .tight]))
 have kB := Keep.app NoneOf H0 [.arr (List.replicate x.tasks.length (.int .i64 0)) .tight]
 have gB := get_new (h := H0) (o := .arr (List.replicate x.tasks.length (.int .i64 0)) .tight)
 have hlB : (H0 ++ [Obj.arr (List.replicate x.tasks.length (.int .i64 0)) .tight]).length = H0.length + 1 := by simp
 have K0 := kap.trans kB
 have nl := ls1.len (by decide)
 simp [hb2]
 generalize H0 ++ [Obj.arr (List.replicate x.tasks.length (.int .i64 0)) .tight] = H1 at *
 simp [nl]
 refine W_loop (WoI H0.length x.tasks.length lv l h) ?_ l.length ⟨0, by omega, by omega, rfl, K0, by simpa [worstF, ints] using gB⟩
 rintro m e H2 ⟨i, hi, rfl, rfl, k2, g2⟩
 by_cases hie : i = l.length
 ·subst hie
  rw [List.take_length] at g2
  simp
  exact ⟨k2, g2⟩
 have hlt : i < l.length := by omega
 have hlt' : (i : Int) < l.length := by omega
 have hw2 : IntKind.i64.wrap ((i : Int) + 1) = ((i + 1 : Nat) : Int) := by rw [w64 (by omega) (by omega)]; omega
 obtain ⟨b0, o0, row, x1, x2, x3, x4⟩ := (ls.on k2).row (k := .i64) (by decide) hlt
 have x1 : idxAddrV 7 lv (.int .i64 (i : Int)) = some (.ptr b0 o0) := x1
 have x2 : loadAt H2 b0 o0 (some 7) = some (.agg row) := x2
 have x4 : row = logL l[i] := x4
 subst x4
 have f1 : fillC [.int .i64 0, .int .i64 0, .int .i64 0, .bool false, .bool false, .int .i64 0, .int .i64 0] [] = some [.int .i64 0, .int .i64 0, .int .i64 0, .bool false, .bool false, .int .i64 0, .int .i64 0] := rfl
 have s5 := store_new (h := H2) (row := logL l[i]) (z := [.int .i64 0, .int .i64 0, .int .i64 0, .bool false, .bool false, .int .i64 0, .int .i64 0]) rfl rfl
 have ll : (logL l[i]).length = 7 := rfl
 have k5 := Keep.app NoneOf H2 [.arr (logL l[i]) .tight]
 have g5 := get_new (h := H2) (o := .arr (logL l[i]) .tight)
 have g25 := k5.at g2 id
 have l5 := ld g5
 have hB2 := lt_of_get g2
 have hwl : (worstF x.tasks.length (l.take i)).length = x.tasks.length := worstF_length
 have hstep := worst_take (n := x.tasks.length) hlt
 simp [hlt, hlt', x1, x2, f1, hca, s5, ll]
 generalize H2 ++ [Obj.arr (logL l[i]) .tight] = H5 at *
 generalize worstF x.tasks.length (l.take i) = w at *
 obtain ⟨w', hw'⟩ : ∃ w', worstF x.tasks.length (l.take (i + 1)) = w' := ⟨_, rfl⟩
 rw [hw'] at hstep
 generalize l[i] = y at *
 have y0 : loadAt H5 H2.length 0 none = some (.int .i64 y.task) := by rw [l5]; rfl
 have y1 : loadAt H5 H2.length 1 none = some (.int .i64 y.begin) := by rw [l5]; rfl
 have y2 : loadAt H5 H2.length 2 none = some (.int .i64 y.fin) := by rw [l5]; rfl
 have y3 : loadAt H5 H2.length 3 none = some (.bool y.ended) := by rw [l5]; rfl
 have K5 := k2.trans k5
 by_cases hc : y.ended = true ∧ 0 ≤ y.task ∧ y.task < w.length
 case neg =>
  have hst : w' = w := by rw [hstep, worstStep, if_neg hc]
  have fin : ∃ m', m' < l.length - i ∧ WoI H0.length x.tasks.length lv l h m' [(5, .sl H0.length 0 x.tasks.length x.tasks.length), (12, lv), (13, .int .i64 l.length), (14, .int .i64 ((i + 1 : Nat) : Int))] H5 :=
   ⟨l.length - (i + 1), by omega, i + 1, by omega, rfl, rfl, K5, by rw [hw', hst]; exact g25⟩
  by_cases h1 : y.ended = true
  ·by_cases h2 : y.task < 0
   ·simp [y0, y3, h1, h2, hw2]
    exact fin
   ·have h3 : (x.tasks.length : Int) ≤ y.task := by
     have : ¬ (0 ≤ y.task ∧ y.task < w.length) := fun q => hc ⟨h1, q⟩
     omega
    simp [y0, y3, h1, h2, h3, hw2]
    exact fin
  ·have h1 : y.ended = false := by simpa using h1
   simp [y3, h1, hw2]
   exact fin
 have hst : w' = w.set y.task.toNat (max (w.getD y.task.toNat 0) (IntKind.i64.wrap (y.fin - y.begin))) := by rw [hstep, worstStep, if_pos hc]
 obtain ⟨h1, h2, h3⟩ := hc
 have h2' : ¬ y.task < 0 := by omega
 have h3' : ¬ (x.tasks.length : Int) ≤ y.task := by omega
 have h4 : y.task < x.tasks.length := by omega
 have hget : (ints .i64 w)[y.task.toNat]? = some (.int .i64 (w.getD y.task.toNat 0)) := by
  rw [ints_get, List.getElem?_eq_getElem (by omega), List.getD_eq_getElem?_getD, List.getElem?_eq_getElem (by omega)]
  rfl
 have lB : ∀ o, loadAt H5 H0.length o none = (ints .i64 w)[o]? := ld g25
 have mx2 := mxL_two (a := w.getD y.task.toNat 0) (b := IntKind.i64.wrap (y.fin - y.begin))
 have st := sto1 g25 (o := y.task.toNat) (v := .int .i64 (max (w.getD y.task.toNat 0) (IntKind.i64.wrap (y.fin - y.begin)))) (by simp [ints]; omega) rfl
 have hset : (ints .i64 w).set y.task.toNat (.int .i64 (max (w.getD y.task.toNat 0) (IntKind.i64.wrap (y.fin - y.begin)))) = ints .i64 w' := by rw [hst]; simp [ints, List.map_set]
 rw [hset] at st
 generalize max (w.getD y.task.toNat 0) (IntKind.i64.wrap (y.fin - y.begin)) = mxv at *
 generalize w.getD y.task.toNat 0 = wv at *
 generalize hdf : IntKind.i64.wrap (y.fin - y.begin) = df at *
 have k6 : Keep (fun b => b = H0.length) H5 (H5.set H0.length (.arr (ints .i64 w') .tight)) := Keep.set _ _ rfl
 have g6 := get_set_self (o := .arr (ints .i64 w') .tight) (lt_of_get g25)
 have K6 := K5.then k6 fun b hb e => by have := kap.len; omega
 simp [y0, y1, y2, y3, h1, h2, h2', h3', h4, lB, hget, hdf, mx2, hw2]
 rw [st]
 simp only [OV_some]
 exact ⟨l.length - (i + 1), by omega, i + 1, by omega, rfl, by simp, K6, by rw [hw']; exact g6⟩
end Go.Cl
