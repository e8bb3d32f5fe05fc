/-
  Texts laid together: AEnA AEnB AEnC AEnD AEnE.
-/
import Derived.Test.YtjlcfkdkongmmaaGreatDoorMC
import Derived.Test.YtjlcfkdkongmmaaGreatDoorMD
import Derived.Test.YtjlcfkdkongmmaaGreatDoorME
namespace Go.Cl
open Go
set_option linter.unusedSimpArgs false
set_option linter.unusedVariables false
set_option maxHeartbeats 2000000
variable {p : PP}
def cmpI (a b : Int) : Int := if a < b then -1 else if b < a then 1 else 0
theorem cmp_spec (lp : LP p) {h : Heap} {a b : Int} : WF p 358 [.int .i64 a, .int .i64 b] h fun r h' => r = .int .i64 (cmpI a b) ∧ h' = h := by
 have nan : ∀ {x : Int} {K : CV → Heap → Prop}, K (.bool false) h → WF p 359 [.int .i64 x] h K := fun {x K} k => by
  refine WF_of (by rw [lp.pg]; exact S.pg359) (lp.no ⟨rfl, rfl⟩) ?_
  show W p S.b359 _ _ (retQ [.t 2] _)
  unfold S.b359
  simp
  exact k
 refine WF_of (by rw [lp.pg]; exact S.pg358) (lp.no ⟨rfl, rfl⟩) ?_
 show W p S.b358 _ _ (retQ [.t 4] _)
 unfold S.b358
 simp
 refine nan ?_
 try simp
 refine nan ?_
 by_cases h1 : a < b
 ·simp [h1, cmpI]
 ·by_cases h2 : b < a
  ·simp [h1, h2, cmpI]
  ·simp [h1, h2, cmpI]
theorem prCmp_spec (lp : LP p) {h : Heap} {b : Nat} {c : List CV} {tv : CV} {l : List TaskV} {P : Nat → Prop} (g : h[b]? = some (.arr c .tight)) (c2 : c[2]? = some tv) (st : Sl taskC h P tv l) {i j : Nat} (hi : i < l.length) (hj : j < l.length) :
  WF p 337 [.int .i64 i, .int .i64 j, .ptr b 0] h fun r h' => r = .int .i64 (cmpI l[i].dl l[j].dl) ∧ h' = h := by
 refine WF_of (by rw [lp.pg]; exact S.pg337) (lp.no ⟨rfl, rfl⟩) ?_
 show W p S.b337 _ _ (retQ [.t 5] _)
 unfold S.b337
 have lS := ld g
 have dl : ∀ {i : Nat} (hi : i < l.length), ∃ b0 o0, idxAddrV 5 tv (.int .i64 i) = some (.ptr b0 o0) ∧ loadAt h b0 (o0 + 2) none = some (.int .i64 l[i].dl) := fun {i} hi => by
  obtain ⟨b0, o0, row, x1, x2, x3, pv, hrow, sp⟩ := st.row (k := .i64) (by decide) hi
  have y := x3 2 (by decide)
  rw [hrow] at y
  exact ⟨b0, o0, x1, y⟩
 obtain ⟨b0, o0, x1, x2⟩ := dl hi
 obtain ⟨b1, o1, y1, y2⟩ := dl hj
 simp [lS, c2, x1, x2, y1, y2]
 refine (cmp_spec lp).mono ?_
 rintro r h1 ⟨rfl, rfl⟩
 simp
def Rises (l : List TaskV) : Prop := ∀ (i : Nat) (h : i + 1 < l.length), (l[i]'(by omega)).dl ≤ l[i + 1].dl
def ups (n : Nat) : List Int := (List.range n).map fun (i : Nat) => (i : Int)
def InsI (v f : CV) (n : Nat) (h : Heap) (m : Nat) (e : Env) (h' : Heap) : Prop :=
 ∃ i : Nat, 1 ≤ i ∧ i ≤ n ∧ m = n - i ∧ e = [(0, v), (1, .int .i64 0), (2, .int .i64 n), (3, f), (8, .int .i64 i)] ∧ h' = h
theorem ins_spec (lp : LP p) {h : Heap} {b : Nat} {c : List CV} {tv v : CV} {l : List TaskV} {P Q : Nat → Prop} (g : h[b]? = some (.arr c .tight)) (c2 : c[2]? = some tv) (st : Sl taskC h P tv l) (hr : Rises l) (hn : 1 ≤ l.length) (hb : l.length ≤ 1000)
  (sv : Sl (.int .i64) h Q v (ups l.length)) :
  WF p 379 [v, .int .i64 0, .int .i64 l.length, .fn 337 [.ptr b 0]] h fun r h' => h' = h := by
 refine WF_of (by rw [lp.pg]; exact S.pg379) (lp.no ⟨rfl, rfl⟩) ?_
 show W p S.b379 _ _ (retQ [] _)
 unfold S.b379
 have hw1 : IntKind.i64.wrap 1 = 1 := rfl
 simp [hw1]
 refine W_loop (InsI v (.fn 337 [.ptr b 0]) l.length h) ?_ (l.length - 1) ⟨1, by omega, hn, by omega, rfl, rfl⟩
 rintro m e H ⟨i, h1, hi, rfl, rfl, rfl⟩
 by_cases hie : i = l.length
 ·subst hie
  simp
 ·have hlt : i < l.length := by omega
  have hlt' : (i : Int) < l.length := by omega
  have hw : IntKind.i64.wrap ((i : Int) + 1) = ((i + 1 : Nat) : Int) := by rw [w64 (by omega) (by omega)]; omega
  obtain ⟨q, rfl⟩ : ∃ q, i = q + 1 := ⟨i - 1, by omega⟩
  have hul : (ups l.length).length = l.length := by simp [ups]
  obtain ⟨b1, o1, x1, x2, x3⟩ := readI_idx (k' := .i64) sv.ints (i := q + 1) (by rw [hul]; omega)
  obtain ⟨b2, o2, y1, y2, y3⟩ := readI_idx (k' := .i64) sv.ints (i := q) (by rw [hul]; omega)
  have u1 : (ups l.length)[q + 1]'(by rw [hul]; omega) = ((q + 1 : Nat) : Int) := by simp [ups]
  have u2 : (ups l.length)[q]'(by rw [hul]; omega) = (q : Int) := by simp [ups]
  rw [u1] at x3
  rw [u2] at y3
  have x1 : idxAddrV 1 v (.int .i64 ((q : Int) + 1)) = some (.ptr b1 o1) := x1
  have x3 : loadAt H b1 o1 none = some (.int .i64 ((q : Int) + 1)) := x3
  have hwq : IntKind.i64.wrap (q : Int) = (q : Int) := w64 (by omega) (by omega)
  have hqp : (0 : Int) < (q : Int) + 1 := by omega
  have hlt'' : (q : Int) + 1 < l.length := by omega
  have hw2 : IntKind.i64.wrap ((q : Int) + 1 + 1) = (q : Int) + 1 + 1 := w64 (by omega) (by omega)
  have hcm : ¬ cmpI (l[q + 1]'(by omega)).dl (l[q]'(by omega)).dl < 0 := by
   have := hr q hlt
   unfold cmpI
   rw [if_neg (by omega)]
   split <;> omega
  simp [hlt'']
  refine W_loop (fun m e h' => m = 0 ∧ e = [(0, v), (1, .int .i64 0), (2, .int .i64 l.length), (3, .fn 337 [.ptr b 0]), (8, .int .i64 ((q : Int) + 1)), (9, .int .i64 ((q : Int) + 1))] ∧ h' = H) ?_ 0 ⟨rfl, rfl, rfl⟩
  rintro m e H2 ⟨rfl, rfl, rfl⟩
  simp [hqp, x1, x3, hwq, y1, y3]
  refine (prCmp_spec lp (i := q + 1) (j := q) g c2 st (by omega) (by omega)).mono ?_
  rintro r H3 ⟨rfl, rfl⟩
  simp [hcm, hw2]
  exact ⟨l.length - (q + 2), by omega, q + 2, by omega, by omega, rfl, by simp; omega, rfl⟩
theorem sort_spec (lp : LP p) {h : Heap} {b : Nat} {c : List CV} {tv v : CV} {l : List TaskV} {P Q : Nat → Prop} (g : h[b]? = some (.arr c .tight)) (c2 : c[2]? = some tv) (st : Sl taskC h P tv l) (hr : Rises l) (hn : 1 ≤ l.length) (hb : l.length ≤ 12)
  (sv : Sl (.int .i64) h Q v (ups l.length)) : WF p 338 [v, .fn 337 [.ptr b 0]] h fun r h' => h' = h := by
 refine WF_of (by rw [lp.pg]; exact S.pg338) (lp.no ⟨rfl, rfl⟩) ?_
 show W p S.b338 _ _ (retQ [] _)
 unfold S.b338
 have n0 := sv.len (by decide)
 have hul : (ups l.length).length = l.length := by simp [ups]
 rw [hul] at n0
 simp [n0]
 refine WF_of (by rw [lp.pg]; exact S.pg357) (lp.no ⟨rfl, rfl⟩) ?_
 show W p S.b357 _ _ (retQ [] _)
 unfold S.b357
 have h20 : ¬ (20 : Int) ≤ l.length := by omega
 have h20n : ¬ 20 ≤ l.length := by omega
 have h20' : ¬ (20 : Int) < l.length := by omega
 have h20n' : ¬ 20 < l.length := by omega
 try simp
 refine W_loop (fun m e h' => m = 0 ∧ e = [(0, v), (1, .int .i64 l.length), (2, .fn 337 [.ptr b 0]), (6, .int .i64 20), (7, .int .i64 0), (8, .int .i64 20)] ∧ h' = h) ?_ 0 ⟨rfl, rfl, rfl⟩
 rintro m e H2 ⟨rfl, rfl, rfl⟩
 simp [h20, h20n]
 refine (ins_spec lp g c2 st hr hn (by omega) sv).mono ?_
 rintro r H3 rfl
 try simp
 refine W_loop (fun m e h' => m = 0 ∧ e = [(0, v), (1, .int .i64 l.length), (2, .fn 337 [.ptr b 0]), (6, .int .i64 20)] ∧ h' = H3) ?_ 0 ⟨rfl, rfl, rfl⟩
 rintro m e H2 ⟨rfl, rfl, rfl⟩
 simp [h20', h20n']
def downs (n : Nat) : List Int := (List.range n).map fun (i : Nat) => ((n - i : Nat) : Int)
def OpA (b n : Nat) (h : Heap) (m : Nat) (e : Env) (h' : Heap) : Prop :=
 ∃ (i : Nat) (v : CV), i ≤ n ∧ m = n - i ∧ e = [(1, .ptr b 0), (3, v), (10, .int .i64 n), (11, .int .i64 i)] ∧ Keep NoneOf h h' ∧ OwnL (.int .i64) h' NoneOf v (ups i) ∧ ∀ b, v.blk = some b → h.length ≤ b
def OpB (v : CV) (ob n : Nat) (h : Heap) (m : Nat) (e : Env) (h' : Heap) : Prop :=
 ∃ (k : Nat) (l : List Int), k ≤ n ∧ m = n - k ∧ e = [(3, v), (5, .sl ob 0 n n), (25, v), (26, .int .i64 n), (27, .int .i64 k)] ∧ Keep (fun x => x = ob) h h' ∧ h'[ob]? = some (.arr (ints .i64 l) .tight) ∧ l.length = n ∧ ∀ j : Nat, j < k → l[j]? = some ((n - j : Nat) : Int)
theorem prios318 (lp : LP p) {h : Heap} {P : Nat → Prop} {x : SetV} {c : List CV} (rx : setC.rep h P c x) (hr : Rises x.tasks) (hn : 1 ≤ x.tasks.length) (hb : x.tasks.length ≤ 12) :
  WF p 318 [.agg c] h fun r h' => Keep NoneOf h h' ∧ ∃ ob, r = .sl ob 0 x.tasks.length x.tasks.length ∧ h.length ≤ ob ∧ h'[ob]? = some (.arr (ints .i64 (downs x.tasks.length)) .tight) := by
 refine WF_of (by rw [lp.pg]; exact S.pg318) (lp.no ⟨rfl, rfl⟩) ?_
 show W p S.b318 _ _ (retQ [.t 2] _)
 unfold S.b318
 have hca : ∀ l, (CV.agg l).cells = l := fun _ => rfl
 have kap := Keep.app NoneOf h [.arr c .tight]
 have gS := get_new (h := h) (o := .arr c .tight)
 obtain ⟨cv, tv, hc0, sc, st⟩ := rx
 have c2 : c[2]? = some tv := by subst hc0; rfl
 have st1 := st.on kap
 have n0 := st1.len (by decide)
 have lS := ld gS
 simp [hca, lS, c2, n0]
 generalize hNN : x.tasks.length = n at *
 refine W_loop (OpA h.length n (h ++ [.arr c .tight])) ?_ n ⟨0, .nils, by omega, by omega, rfl, Keep.refl _ _, OwnL.nil, by simp [CV.blk]⟩
 rintro m e H1 ⟨i, v, hi, rfl, rfl, k1, ow, hv⟩
 by_cases hie : i = n
 ·subst hie
  have gS1 := k1.at gS id
  have st2 := st1.on k1
  have ow' := ow
  rw [← hNN] at ow'
  have hnv := ow.sl.len (by decide)
  have hul : (ups i).length = i := by simp [ups]
  rw [hul] at hnv
  try simp
  refine (sort_spec lp gS1 c2 st2 hr (by omega) (by omega) ow'.sl).mono ?_
  rintro r H2 rfl
  have hbg : i ≤ big := by simp [big]; omega
  have kap2 := Keep.app NoneOf H2 [.arr (List.replicate i (.int .i64 0)) .tight]
  have gO : (H2 ++ [Obj.arr (List.replicate i (.int .i64 0)) .tight])[H2.length]? = some (.arr (ints .i64 (List.replicate i 0)) .tight) := by simp [ints]
  have ow3 := ow.on kap2
  have hnv3 := ow3.sl.len (by decide)
  rw [hul] at hnv3
  have K2 := k1.trans kap2
  have hvl : ∀ b, v.blk = some b → b ≠ H2.length := fun b hb e => by have := ow.blk b hb; omega
  simp [hnv, hbg, hnv3]
  generalize hH3 : H2 ++ [Obj.arr (List.replicate i (.int .i64 0)) .tight] = H3 at *
  refine W_loop (OpB v H2.length i H3) ?_ i ⟨0, _, by omega, by omega, rfl, Keep.refl _ _, gO, by simp, fun j hj => by omega⟩
  rintro m e H4 ⟨k, lo, hk, rfl, rfl, k4, g4, hlo, hj⟩
  have ow4 := ow3.keep k4 (fun b hb e => hvl b hb e) (fun _ hb => hb.elim)
  by_cases hke : k = i
  ·subst hke
   have hdn : lo = downs k := by
    apply List.ext_getElem?
    intro j
    by_cases hjk : j < k
    ·rw [hj j hjk]; simp [downs, hjk]
    ·rw [List.getElem?_eq_none (by omega), List.getElem?_eq_none (by simp [downs]; omega)]
   subst hdn
   have hH := k1.len
   simp at hH
   simp
   exact ⟨(kap.trans K2).then k4 fun y hy e => by omega, by omega, g4⟩
  ·have hlt : k < i := by omega
   have hlt' : (k : Int) < i := by omega
   have hul' : k < (ups i).length := by omega
   obtain ⟨b1, o1, x1, x2, x3⟩ := readI_idx (k' := .i64) ow4.sl.ints (i := k) hul'
   have u1 : (ups i)[k] = (k : Int) := by simp [ups]
   rw [u1] at x3
   have hnv4 := ow4.sl.len (by decide)
   rw [hul] at hnv4
   have hw : IntKind.i64.wrap ((k : Int) + 1) = ((k + 1 : Nat) : Int) := by rw [w64 (by omega) (by omega)]; omega
   have hws : IntKind.i64.wrap ((i : Int) - (k : Int)) = ((i - k : Nat) : Int) := by rw [w64 (by omega) (by omega)]; omega
   have hix : idxAddrV 1 (.sl H2.length 0 i i) (.int .i64 (k : Int)) = some (.ptr H2.length k) := by
    rw [idxAddrV_sl, if_pos ⟨by omega, by omega⟩]; simp
   have s4 := sto1 g4 (o := k) (v := .int .i64 ((i - k : Nat) : Int)) (by simp [ints]; omega) rfl
   have hset : (ints .i64 lo).set k (.int .i64 ((i - k : Nat) : Int)) = ints .i64 (lo.set k ((i - k : Nat) : Int)) := by simp [ints, List.map_set]
   rw [hset] at s4
   generalize hq : ((i - k : Nat) : Int) = q at *
   simp [hlt, hlt', x1, x3, hnv4, hws, hix, s4, hw]
   refine ⟨i - (k + 1), by omega, k + 1, _, by omega, rfl, rfl, k4.trans (Keep.set _ _ rfl), get_set_self (lt_of_get g4), by simp [hlo], fun j hjk => ?_⟩
   by_cases hjk' : j = k
   ·subst hjk'; rw [List.getElem?_set_self (by omega), hq]
   ·rw [List.getElem?_set_ne (by omega)]; exact hj j (by omega)
 ·have hlt : i < n := by omega
  have hlt' : (i : Int) < n := by omega
  have hw : IntKind.i64.wrap ((i : Int) + 1) = ((i + 1 : Nat) : Int) := by rw [w64 (by omega) (by omega)]; omega
  simp [hlt, hlt', fillC, splice, spread, cellsAt]
  refine OV_push (e := .int .i64) (x := (i : Int)) (ow.on (Keep.app _ _ _)) rfl (fun _ hb => hb.elim) (by simp [ups, big]; omega) (by decide) fun v2 h2 o2 k2 hb2 => ?_
  simp [hw]
  refine ⟨n - (i + 1), by omega, i + 1, v2, by omega, rfl, rfl, (k1.trans (Keep.app _ _ _)).then k2 fun b hb e => by have := hv b e; omega, ?_, fun b hb => ?_⟩
  ·have : ups (i + 1) = ups i ++ [(i : Int)] := by simp [ups, List.range_succ]
   rw [this]; exact o2
  ·rcases hb2 b hb with q | q
   ·exact hv b q
   ·have := k1.len; simp at q; omega
theorem ceil0 (lp : LP p) {h : Heap} {P : Nat → Prop} {x : SetV} {c : List CV} (rx : setC.rep h P c x) (hl : x.locks = 0) (hr : Rises x.tasks) (hn : 1 ≤ x.tasks.length) (hb : x.tasks.length ≤ 12) :
  WF p 319 [.agg c] h fun r h' => Keep NoneOf h h' ∧ ∃ ob, r = .sl ob 0 0 0 ∧ h.length ≤ ob ∧ h'[ob]? = some (.arr [] .tight) := by
 refine WF_of (by rw [lp.pg]; exact S.pg319) (lp.no ⟨rfl, rfl⟩) ?_
 show W p S.b319 _ _ (retQ [.t 2] _)
 unfold S.b319
 have hca : ∀ l, (CV.agg l).cells = l := fun _ => rfl
 have kap := Keep.app NoneOf h [.arr c .tight]
 have gS := get_new (h := h) (o := .arr c .tight)
 have lW := ldw gS (n := 3) (setC.len rx)
 have r1 := setC.on rx kap
 obtain ⟨cv, tv, hc0, sc, st⟩ := rx
 have c0 : c[0]? = some (.int .i64 x.locks) := by subst hc0; rfl
 rw [hl] at c0
 simp [hca, lW]
 refine (prios318 lp r1 hr hn hb).mono ?_
 rintro r h1 ⟨k1, ob, rfl, _, _⟩
 have lS := ld (k1.at gS id)
 have hmx : mxL [.int .i64 0, .int .i64 0] = some (.int .i64 0) := rfl
 have hmk : mkslV h1 [.int .i64 0] (.int .i64 0) (.int .i64 0) = some (.sl h1.length 0 0 0, h1 ++ [.arr [] .tight]) := by simp [mkslV]
 simp [lS, c0, hmx, hmk]
 refine W_loop (fun m e h' => m = 0 ∧ e = [(1, .ptr h.length 0), (3, .sl ob 0 x.tasks.length x.tasks.length), (4, .sl h1.length 0 0 0), (15, .int .i64 0), (16, .int .i64 0)] ∧ h' = h1 ++ [.arr [] .tight]) ?_ 0 ⟨rfl, rfl, rfl⟩
 rintro m e H2 ⟨rfl, rfl, rfl⟩
 have hl1 := k1.len
 simp at hl1
 simp
 exact ⟨(kap.trans k1).trans (Keep.app _ _ _), by omega⟩
theorem cloneT (lp : LP p) {h : Heap} {P : Nat → Prop} {v : CV} {l : List TaskV} (s : Sl taskC h P v l) (hv : v ≠ .nils) (hP : ∀ b, P b → b < h.length) (hb : l.length ≤ 1000) :
  WF p 336 [v] h fun r h' => OwnL taskC h' P r l ∧ Keep NoneOf h h' ∧ ∀ b, r.blk = some b → h.length ≤ b := by
 refine WF_of (by rw [lp.pg]; exact S.pg336) (lp.no ⟨rfl, rfl⟩) ?_
 show W p S.b336 _ _ (retQ [.t 2] _)
 unfold S.b336
 have hsc := s.scalar
 have he : eqv .s v .nils = some false := by
  obtain ⟨_, r, _⟩ := s
  rcases r with ⟨e, _⟩ | ⟨b, o, n, c, cs, st, rfl, _⟩
  ·exact absurd e hv
  ·rfl
 obtain ⟨cc, q1, q2⟩ := (s.on (Keep.app NoneOf h [.arr [] .tight])).spread (by decide)
 have q1 : spread (h ++ [.arr [] .tight]) 5 v = some (l.length, cc) := q1
 have f0 : fillC ([] : List CV) [] = some [] := rfl
 simp [he, f0, q1]
 refine OV_cpy (ec := taskC) q2 hP rfl (by simp [big]; omega) (by decide) fun v1 h3 o1 k3 hb3 => ?_
 simp
 exact ⟨o1, k3, hb3⟩
theorem cloneO (lp : LP p) {h : Heap} {P : Nat → Prop} {v : CV} {l : List OpV} (s : Sl opC h P v l) (hv : v ≠ .nils) (hP : ∀ b, P b → b < h.length) (hb : l.length ≤ 1000) :
  WF p 333 [v] h fun r h' => OwnL opC h' P r l ∧ Keep NoneOf h h' ∧ ∀ b, r.blk = some b → h.length ≤ b := by
 refine WF_of (by rw [lp.pg]; exact S.pg333) (lp.no ⟨rfl, rfl⟩) ?_
 show W p S.b333 _ _ (retQ [.t 2] _)
 unfold S.b333
 have hsc := s.scalar
 have he : eqv .s v .nils = some false := by
  obtain ⟨_, r, _⟩ := s
  rcases r with ⟨e, _⟩ | ⟨b, o, n, c, cs, st, rfl, _⟩
  ·exact absurd e hv
  ·rfl
 obtain ⟨cc, q1, q2⟩ := (s.on (Keep.app NoneOf h [.arr [] .tight])).spread (by decide)
 have q1 : spread (h ++ [.arr [] .tight]) 5 v = some (l.length, cc) := q1
 have f0 : fillC ([] : List CV) [] = some [] := rfl
 simp [he, f0, q1]
 refine OV_cpy (ec := opC) q2 hP rfl (by simp [big]; omega) (by decide) fun v1 h3 o1 k3 hb3 => ?_
 simp
 exact ⟨o1, k3, hb3⟩
theorem cloneC0 (lp : LP p) {h : Heap} : WF p 335 [.nils] h fun r h' => r = .nils ∧ h' = h := by
 refine WF_of (by rw [lp.pg]; exact S.pg335) (lp.no ⟨rfl, rfl⟩) ?_
 show W p S.b335 _ _ (retQ [.t 2] _)
 unfold S.b335
 simp [eqv]
theorem Sl.not_nil {α : Type} {e : Cod α} {h : Heap} {P : Nat → Prop} {v : CV} {l : List α} (s : Sl e h P v l) (he : 0 < e.n) (hl : l ≠ []) : v ≠ .nils := by
 intro hv
 subst hv
 have n := s.len he
 simp at n
 exact hl (List.eq_nil_of_length_eq_zero (by omega))
theorem rows_prog {h : Heap} {P : Nat → Prop} {cells : List CV} {l : List TaskV} (r : Rows taskC h P cells l) {i : Nat} (hi : i < l.length) {pv : CV} (s : Sl opC h P pv l[i].prog) : Rows taskC h P (cells.set (i * 5 + 4) pv) l := by
 have hn : taskC.n = 5 := rfl
 refine ⟨by rw [List.length_set]; exact r.1, fun j t hj => ?_⟩
 have hr := r.2 j t hj
 rw [hn] at hr ⊢
 by_cases hji : j = i
 ·subst hji
  have htj : t = l[j] := by rw [List.getElem?_eq_getElem hi] at hj; exact (Option.some.inj hj).symm
  obtain ⟨pv0, e, s0⟩ := hr
  refine ⟨pv, ?_, by rw [htj]; exact s⟩
  rw [List.drop_set, if_neg (by omega), List.take_set, e, Nat.add_sub_cancel_left]
  rfl
 ·rw [List.drop_set]
  split
  ·exact hr
  ·rw [List.take_set, List.set_eq_of_length_le]
   ·exact hr
   ·rw [List.length_take]; omega
def CpI (b tb n : Nat) (lk : Int) (st : St) (l : List TaskV) (Q : Nat → Prop) (h : Heap) (m : Nat) (e : Env) (h' : Heap) : Prop :=
 ∃ (i : Nat) (cells : List CV), i ≤ n ∧ m = n - i ∧ e = [(1, .ptr b 0), (2, .ptr (b + 1) 0), (14, .int .i64 n), (15, .int .i64 i)] ∧ Keep (fun x => x = tb) h h' ∧ h'[tb]? = some (.arr cells st) ∧ Rows taskC h' Q cells l
theorem copied_spec (lp : LP p) {h : Heap} {P : Nat → Prop} {lk : Int} {tv : CV} {l : List TaskV} (st : Sl taskC h P tv l) (hP : ∀ b, P b → b < h.length) (hn : 1 ≤ l.length) (hb : l.length ≤ 1000) (hp : ∀ t ∈ l, t.prog ≠ [] ∧ t.prog.length ≤ 1000) :
  WF p 317 [.agg [.int .i64 lk, .nils, tv]] h fun r h' => Keep NoneOf h h' ∧ ∃ tv', r = .agg [.int .i64 lk, .nils, tv'] ∧ Sl taskC h' (fun b => P b ∨ h.length ≤ b) tv' l := by
 refine WF_of (by rw [lp.pg]; exact S.pg317) (lp.no ⟨rfl, rfl⟩) ?_
 show W p S.b317 _ _ (retQ [.cell (some 3) 2] _)
 unfold S.b317
 have hca : ∀ l, (CV.agg l).cells = l := fun _ => rfl
 have kap := Keep.app NoneOf h [.arr [.int .i64 lk, .nils, tv] .tight, .arr [.int .i64 0, .nils, .nils] .tight]
 have hne := st.not_nil (by decide) (by intro e; rw [e] at hn; simp at hn)
 have g0 : (h ++ [Obj.arr [.int .i64 lk, .nils, tv] .tight, .arr [.int .i64 0, .nils, .nils] .tight])[h.length]? = some (.arr [.int .i64 lk, .nils, tv] .tight) := by simp
 have g1 : (h ++ [Obj.arr [.int .i64 lk, .nils, tv] .tight, .arr [.int .i64 0, .nils, .nils] .tight])[h.length + 1]? = some (.arr [.int .i64 0, .nils, .nils] .tight) := by simp
 have st1 := st.on kap
 have hsc := st.scalar
 simp [hca]
 generalize hH : h ++ [Obj.arr [.int .i64 lk, .nils, tv] .tight, .arr [.int .i64 0, .nils, .nils] .tight] = H at *
 have hHl : H.length = h.length + 2 := by rw [← hH]; simp
 have l0 := ld g0
 have s0 := sto1 g0 (o := 1) (v := .nils) (by simp) rfl
 have hset : ([.int .i64 lk, .nils, tv] : List CV).set 1 .nils = [.int .i64 lk, .nils, tv] := rfl
 rw [hset] at s0
 have hsame : H.set h.length (.arr [.int .i64 lk, .nils, tv] .tight) = H := by
  apply List.ext_getElem?
  intro j
  by_cases hj : j = h.length
  ·subst hj; rw [List.getElem?_set_self (lt_of_get g0), g0]
  ·rw [List.getElem?_set_ne (by omega)]
 rw [hsame] at s0
 simp [l0]
 refine (cloneC0 lp).mono ?_
 rintro r h1 ⟨rfl, rfl⟩
 simp [s0, l0]
 refine (cloneT lp st1 hne (fun b hb => by have := hP b hb; omega) hb).mono ?_
 rintro r h2 ⟨ow, k2, hb2⟩
 obtain ⟨cells, mi, rs, np⟩ := ow
 have hn5 : taskC.n = 5 := rfl
 have hrl := rs.1
 rcases mi with ⟨_, e⟩ | ⟨tb, n, stt, rfl, hlen, hst, hg⟩
 ·rw [e] at hrl; simp [hn5] at hrl; omega
 rw [hn5] at hlen hrl
 have hnn : n = l.length := by omega
 subst hnn
 have htb : h.length + 2 ≤ tb := by have := hb2 tb rfl; omega
 have g02 := k2.at g0 id
 have g12 := k2.at g1 id
 have s2 := sto1 g02 (o := 2) (v := .sl tb 0 l.length l.length) (by simp) rfl
 have hset2 : ([.int .i64 lk, .nils, tv] : List CV).set 2 (.sl tb 0 l.length l.length) = [.int .i64 lk, .nils, .sl tb 0 l.length l.length] := rfl
 rw [hset2] at s2
 have k3 : Keep (fun y => y = h.length) h2 (h2.set h.length (.arr [.int .i64 lk, .nils, .sl tb 0 l.length l.length] .tight)) := Keep.set _ _ rfl
 have g03 := get_set_self (o := .arr [.int .i64 lk, .nils, .sl tb 0 l.length l.length] .tight) (lt_of_get g02)
 have g13 := k3.at g12 (by omega)
 have gt3 := k3.at hg (by omega)
 have rs3 := (rs.keep k3 fun b hb e => by have := hP b hb; omega).mono fun b hb => (.inl hb : P b ∨ (h.length + 2 ≤ b ∧ b ≠ tb))
 have K3 : Keep NoneOf h (h2.set h.length (.arr [.int .i64 lk, .nils, .sl tb 0 l.length l.length] .tight)) := (kap.trans k2).then k3 fun y hy e => by omega
 simp [s2]
 generalize h2.set h.length (.arr [.int .i64 lk, .nils, .sl tb 0 l.length l.length] .tight) = H3 at *
 have l03 := ld g03
 simp [l03]
 have hH3 := lt_of_get gt3
 refine W_loop (CpI h.length tb l.length lk stt l (fun b => P b ∨ (h.length + 2 ≤ b ∧ b ≠ tb)) H3) ?_ l.length ⟨0, cells, by omega, by omega, rfl, Keep.refl _ _, gt3, rs3⟩
 rintro m e H4 ⟨i, cs, hi, rfl, rfl, k4, g4, r4⟩
 have g04 := k4.at g03 (by omega)
 have g14 := k4.at g13 (by omega)
 have l04 := ld g04
 have hcs : cs.length = l.length * 5 := by have := r4.1; rw [hn5] at this; exact this
 by_cases hie : i = l.length
 ·subst hie
  have w4 := ldw g04 (n := 3) rfl
  have s5 := sto g14 (vs := [.int .i64 lk, .nils, .sl tb 0 l.length l.length]) rfl rfl
  have k5 : Keep (fun y => y = h.length + 1) H4 (H4.set (h.length + 1) (.arr [.int .i64 lk, .nils, .sl tb 0 l.length l.length] .tight)) := Keep.set _ _ rfl
  have w5 := ldw (get_set_self (o := .arr [.int .i64 lk, .nils, .sl tb 0 l.length l.length] .tight) (lt_of_get g14)) (n := 3) rfl
  have g5 := k5.at g4 (by omega)
  simp [w4, hca, s5, w5]
  have m5 : Mine (H4.set (h.length + 1) (.arr [.int .i64 lk, .nils, .sl tb 0 l.length l.length] .tight)) 5 (.sl tb 0 l.length l.length) cs := .inr ⟨tb, l.length, stt, rfl, hcs, hst, g5⟩
  refine ⟨(K3.then k4 fun y hy e => by omega).then k5 fun y hy e => by omega, cs, m5.read, ⟨m5.ok, fun x hx => by simp [CV.blk] at hx; subst hx; exact .inr (by omega)⟩, ?_⟩
  exact (r4.keep k5 fun b hb e => by rcases hb with hb | hb; · have := hP b hb; omega
                                     ·omega).mono fun b hb => hb.imp id fun q => by omega
 ·have hlt : i < l.length := by omega
  have hlt' : (i : Int) < l.length := by omega
  have hx : idxAddrV 5 (.sl tb 0 l.length l.length) (.int .i64 (i : Int)) = some (.ptr tb (i * 5)) := by
   rw [idxAddrV_sl, if_pos ⟨by omega, by omega⟩]; simp
  have lT := ld g4
  obtain ⟨pv, e, sp⟩ := r4.2 i l[i] (List.getElem?_eq_getElem hlt)
  rw [hn5] at e
  have h4 : cs[i * 5 + 4]? = some pv := by
   have : ((cs.drop (i * 5)).take 5)[4]? = some pv := by rw [e]; rfl
   rwa [List.getElem?_take_of_lt (by omega), List.getElem?_drop] at this
  have hpi := hp _ (List.getElem_mem hlt)
  have hw : IntKind.i64.wrap ((i : Int) + 1) = ((i + 1 : Nat) : Int) := by rw [w64 (by omega) (by omega)]; omega
  simp [hlt, hlt', l04, hx, lT, h4]
  refine WO_re_n ?_
  simp
  have sp' := sp.lt
  refine (cloneO lp sp' (sp.not_nil (by decide) hpi.1) (fun b hb => hb.2) hpi.2).mono ?_
  rintro r h5 ⟨o5, k5, hb5⟩
  have l05 := ld (k5.at g04 id)
  refine ⟨fun c' => by simp [recheckB, wanted, Env.get, cls, evOp, Opd.ev, withH, CV.eqb, CV.eqb_refl, l05], ?_⟩
  have g45 := k5.at g4 id
  have hsc := o5.scalar
  have fs := fits_scalar hsc
  have cs5 := CV.cells_scalar hsc
  have hro : stt ≠ .ro := by rcases hst with rfl | rfl <;> simp
  have s5 : storeAt h5 tb (i * 5 + 4) [r] = some (h5.set tb (.arr (cs.set (i * 5 + 4) r) stt)) := by
   simp only [storeAt, g45]
   rw [if_pos ⟨hro, by simp; omega, by simp [hsc]⟩, splice_set (by omega)]
  simp [hx, hlt, fs, cs5, s5, hw]
  have k6 : Keep (fun y => y = tb) h5 (h5.set tb (.arr (cs.set (i * 5 + 4) r) stt)) := Keep.set _ _ rfl
  have htb4 := lt_of_get g4
  refine ⟨l.length - (i + 1), by omega, i + 1, _, by omega, rfl, rfl, (k4.trans (k5.mono fun _ _ e => e.elim)).trans k6, get_set_self (lt_of_get g45), ?_⟩
  refine rows_prog ((r4.keep k5 fun _ _ => id).keep k6 fun b hb e => ?_) hlt ?_
  ·rcases hb with hb | hb
   ·have := hP b hb; omega
   ·exact hb.2 e
  ·refine (o5.sl.keep k6 fun b hb e => ?_).mono fun b hb => ?_
   ·rcases hb with hb | hb
    ·rcases hb.1 with q | q
     ·have := hP b q; omega
     ·exact q.2 e
    ·have := hb5 b hb; omega
   ·rcases hb with hb | hb
    ·exact hb.1
    ·have := hb5 b hb
     exact .inr ⟨by omega, by omega⟩
def deadJ : JobV := ⟨false, [], 0, 0, 0, 0, 0, 0, false, []⟩
def deadC : List CV := [.bool false, .nils, .int .i64 0, .int .i64 0, .int .i64 0, .int .i64 0, .int .i64 0, .int .i64 0, .bool false, .nils]
structure CoreI (b jb gb mb tb : Nat) (tv bv cev pv : CV) (cells : List CV) (Q : Nat → Prop) (l : List TaskV) (jobs : List JobV) (f : Int → Option Int) (gn now seq : Int) (h : Heap) : Prop where
 g : h[b]? = some (.arr [.int .i64 0, .nils, tv, bv, cev, .sl jb 0 l.length l.length, .nils, .nils, .ptr gb 0, .ptr tb 0, .int .i64 now, .int .i64 seq] .tight)
 jg : h[jb]? = some (.arr cells .tight)
 tg : h[tb]? = some (.arr [.nils] .tight)
 gd : GuardAt h gb pv mb (l.map (·.per)) f gn
 ts : Sl taskC h Q tv l
 bs : Sl (.int .i64) h Q bv (downs l.length)
 rs : Rows jobC h Q cells jobs
 jl : jobs.length = l.length
 a1 : b ≠ jb
 a2 : b ≠ gb
 a3 : b ≠ mb
 a4 : b ≠ tb
 a5 : jb ≠ gb
 a6 : jb ≠ mb
 a7 : jb ≠ tb
 a8 : tb ≠ gb
 a9 : tb ≠ mb
 hQ : ∀ x, Q x → x < h.length ∧ x ≠ b ∧ x ≠ jb ∧ x ≠ gb ∧ x ≠ mb ∧ x ≠ tb
 pQ : ∀ x, pv.blk = some x → Q x
theorem dead_rows {h : Heap} {Q : Nat → Prop} : ∀ n : Nat, Rows jobC h Q ((List.replicate n deadC).flatten) (List.replicate n deadJ)
 | 0 => Rows.nil
 | n + 1 => by
   rw [List.replicate_succ, List.replicate_succ, List.flatten_cons, show deadJ :: List.replicate n deadJ = [deadJ] ++ List.replicate n deadJ from rfl]
   exact Rows.append (Rows.one (e := jobC) ⟨.nils, .nils, rfl, Sl.nil, Sl.nil⟩) (dead_rows n)
theorem Sl.is_sl {α : Type} {e : Cod α} {h : Heap} {P : Nat → Prop} {v : CV} {l : List α} (s : Sl e h P v l) (he : 0 < e.n) (hl : l ≠ []) : ∃ b o c, v = .sl b o l.length c := by
 have n := s.len he
 obtain ⟨_, r, _, rows⟩ := s
 rcases r with ⟨rfl, e⟩ | ⟨b, o, m, c, cs, st, rfl, _⟩
 ·simp at n
  exact absurd (List.eq_nil_of_length_eq_zero (by omega)) hl
 ·simp at n
  obtain rfl : m = l.length := by omega
  exact ⟨b, o, c, rfl⟩
def NewQ (x : SetV) (h : Heap) (r : CV) (h' : Heap) : Prop :=
 Keep NoneOf h h' ∧ ∃ b jb gb mb tb tv' bv cev pv cells Q, r = .tup [.ptr b 0, .int .i64 0] ∧ CoreI b jb gb mb tb tv' bv cev pv cells Q x.tasks (List.replicate x.tasks.length deadJ) (fun _ => none) 0 0 0 h' ∧ h.length ≤ b ∧ h.length ≤ jb ∧ h.length ≤ gb ∧ h.length ≤ mb ∧ h.length ≤ tb
theorem new305 (lp : LP p) {h : Heap} {P : Nat → Prop} {x : SetV} {tv : CV} (st : Sl taskC h P tv x.tasks) (hl : x.locks = 0) (hc : x.chans = []) (hP : ∀ b, P b → b < h.length) (hs : x.Sane) (hok : (setP x).2 = 0) (hr : Rises x.tasks) :
  WF p 305 [.agg [.int .i64 0, .nils, tv]] h (NewQ x h) := by
 refine WF_of (by rw [lp.pg]; exact S.pg305) (lp.no ⟨rfl, rfl⟩) ?_
 show W p S.b305 _ _ (retQ [.t 2, .t 3] _)
 unfold S.b305
 obtain ⟨_, ok⟩ := setOk hok
 have ht0 := ok.t0
 have ht12 := ok.t1
 have hca : ∀ l, (CV.agg l).cells = l := fun _ => rfl
 have kap := Keep.app NoneOf h [.arr [.int .i64 0, .nils, tv] .tight]
 have g0 := get_new (h := h) (o := .arr [.int .i64 0, .nils, tv] .tight)
 have rx : setC.rep h P [.int .i64 0, .nils, tv] x := ⟨.nils, tv, by rw [hl], by rw [hc]; exact Sl.nil, st⟩
 have rx1 := setC.on rx kap
 have w0 := ldw g0 (n := 3) rfl
 simp [hca, w0]
 refine (setCheck_spec lp rx1 hs).mono ?_
 rintro r h1 ⟨rfl, k1⟩
 have g1 := k1.at g0 id
 have w1 := ldw g1 (n := 3) rfl
 have st1 := ((st.on kap).on k1)
 simp [hok, w1]
 have hprog : ∀ t ∈ x.tasks, t.prog ≠ [] ∧ t.prog.length ≤ 1000 := fun t ht => by
  obtain ⟨i, hi⟩ := List.mem_iff_getElem?.1 ht
  have q := (taskOk (ok.ta i t hi)).1
  have := (progP_ok q.pr).1
  refine ⟨fun e => q.cost (by rw [e]; rfl), by omega⟩
 have kl := kap.trans k1
 refine (copied_spec lp (lk := 0) st1 (fun b hb => by have := hP b hb; have := kl.len; omega) ht0 (by omega) hprog).mono ?_
 rintro r h2 ⟨k2, tv2, rfl, st2⟩
 obtain ⟨b2, o2, c2, rfl⟩ := st2.is_sl (by decide) (by intro e; rw [e] at ht0; simp at ht0)
 have g2 := k2.at g1 id
 have hsc2 := st2.scalar
 have s2 := sto g2 (vs := [.int .i64 0, .nils, .sl b2 o2 x.tasks.length c2]) rfl (by simp only [List.all_cons, List.all_nil, hsc2]; rfl)
 have k3 : Keep (fun y => y = h.length) h2 (h2.set h.length (.arr [.int .i64 0, .nils, .sl b2 o2 x.tasks.length c2] .tight)) := Keep.set _ _ rfl
 have g3 := get_set_self (o := .arr [.int .i64 0, .nils, .sl b2 o2 x.tasks.length c2] .tight) (lt_of_get g2)
 have hkl := lt_of_get g1
 have st3 := (st2.lt.keep k3 fun b hb e => by rcases hb.1 with q | q; · have := hP b q; omega
                                              ·omega)
 have K3 : Keep NoneOf h (h2.set h.length (.arr [.int .i64 0, .nils, .sl b2 o2 x.tasks.length c2] .tight)) := (kl.trans k2).then k3 fun y hy e => by omega
 have hl3 : (h2.set h.length (.arr [.int .i64 0, .nils, .sl b2 o2 x.tasks.length c2] .tight)).length = h2.length := by simp
 have hl2 := k2.len
 simp [hca, s2]
 generalize h2.set h.length (.arr [.int .i64 0, .nils, .sl b2 o2 x.tasks.length c2] .tight) = H3 at *
 have w3 := ldw g3 (n := 3) rfl
 have l3 := ld g3
 have nt := st3.len (by decide)
 have hbg : x.tasks.length ≤ big := by simp [big]; omega
 have k4 := Keep.app NoneOf H3 [.arr (List.replicate x.tasks.length deadC).flatten .tight]
 have gj4 := get_new (h := H3) (o := .arr (List.replicate x.tasks.length deadC).flatten .tight)
 have g4 := k4.at g3 id
 have w4 := ldw g4 (n := 3) rfl
 have st4 := st3.on k4
 have rx4 : setC.rep (H3 ++ [.arr (List.replicate x.tasks.length deadC).flatten .tight]) (fun b => (P b ∨ h1.length ≤ b) ∧ b < h2.length) [.int .i64 0, .nils, .sl b2 o2 x.tasks.length c2] x := ⟨.nils, _, by rw [hl], by rw [hc]; exact Sl.nil, st4⟩
 have hdc : [CV.bool false, .nils, .int .i64 0, .int .i64 0, .int .i64 0, .int .i64 0, .int .i64 0, .int .i64 0, .bool false, .nils] = deadC := rfl
 simp [w3, l3, nt, hbg]
 rw [hdc]
 simp [w4]
 generalize hH4 : H3 ++ [Obj.arr (List.replicate x.tasks.length deadC).flatten .tight] = H4 at *
 have hH4l : H4.length = H3.length + 1 := by rw [← hH4]; simp
 refine WO_re_n ?_
 simp
 refine (prios318 lp rx4 hr ht0 ht12).mono ?_
 rintro r h5 ⟨k5, ob, rfl, hob, gob⟩
 have g5 := k5.at g4 id
 have w5 := ldw g5 (n := 3) rfl
 have l5 := ld g5
 have nt5 := (st4.on k5).len (by decide)
 refine ⟨fun c' => by simp [recheckB, wanted, Env.get, cls, evOp, Opd.ev, withH, CV.eqb, CV.eqb_refl, CV.eqbL_refl, w5, l5, nt5, i64], ?_⟩
 refine WO_re_n ?_
 simp
 refine (ceil0 lp (setC.on rx4 k5) hl hr ht0 ht12).mono ?_
 rintro r h6 ⟨k6, ce, rfl, hce, gce⟩
 have g6 := k6.at g5 id
 have w6 := ldw g6 (n := 3) rfl
 have l6 := ld g6
 have st6 := (st4.on k5).on k6
 have nt6 := st6.len (by decide)
 refine ⟨fun c' => by simp [recheckB, wanted, Env.get, cls, evOp, Opd.ev, withH, CV.eqb, CV.eqb_refl, CV.eqbL_refl, w6, l6, nt6, i64], ?_⟩
 refine WO_re_n ?_
 simp
 have hta : TasksAt h6 (.sl b2 o2 x.tasks.length c2) (x.tasks.map (·.per)) := by
  obtain ⟨cs, rd, _, rows⟩ := st6
  have hn5 : taskC.n = 5 := rfl
  refine ⟨cs, rd, by rw [rows.1, hn5]; simp; omega, fun i hi => ?_⟩
  have hi' : i < x.tasks.length := by simpa using hi
  obtain ⟨pv0, e, _⟩ := rows.2 i x.tasks[i] (List.getElem?_eq_getElem hi')
  rw [hn5] at e
  have : ((cs.drop (i * 5)).take 5)[1]? = some (.int .i64 x.tasks[i].per) := by rw [e]; rfl
  rw [List.getElem?_take_of_lt (by omega), List.getElem?_drop] at this
  rw [this]; simp
 refine (new_spec (by rw [lp.pg]; exact S.pg5) (lp.no ⟨rfl, rfl⟩) hta (by simp [big]; omega)).mono ?_
 rintro r h7 ⟨gb, pv, mb, rfl, gd, k7, hgb, hmb, hpv⟩
 have k7 : Keep NoneOf h6 h7 := k7
 have g7 := k7.at g6 id
 have w7 := ldw g7 (n := 3) rfl
 have l7 := ld g7
 have nt7 := (st6.on k7).len (by decide)
 refine ⟨fun c' => by simp [recheckB, wanted, Env.get, cls, evOp, Opd.ev, withH, CV.eqb, CV.eqb_refl, CV.eqbL_refl, w7, l7, nt7, i64], ?_⟩
 refine WO_re_n ?_
 simp
 refine WF_of (by rw [lp.pg]; exact S.pg320) (lp.no ⟨rfl, rfl⟩) ?_
 show W p S.b320 _ _ (retQ [.t 0] _)
 unfold S.b320
 have f1 : fillC [.nils] [] = some [.nils] := rfl
 simp [f1, hca]
 have k8 := Keep.app NoneOf h7 [.arr [.nils] .tight]
 have w8 := ldw (k8.at g7 id) (n := 3) rfl
 have l8 := ld (k8.at g7 id)
 refine ⟨fun c' => by simp [recheckB, wanted, Env.get, cls, evOp, Opd.ev, withH, CV.eqb, CV.eqb_refl, CV.eqbL_refl, w8, l8, i64], ?_⟩
 have f2 : fillC [.int .i64 0, .nils, .nils, .nils, .nils, .nils, .nils, .nils, .nilp, .nilp, .int .i64 0, .int .i64 0]
   [(0, 3, .agg [.int .i64 0, .nils, .sl b2 o2 x.tasks.length c2]), (3, 1, .sl ob 0 x.tasks.length x.tasks.length), (4, 1, .sl ce 0 0 0), (5, 1, .sl H3.length 0 x.tasks.length x.tasks.length), (8, 1, .ptr gb 0), (9, 1, .ptr h7.length 0)] =
   some [.int .i64 0, .nils, .sl b2 o2 x.tasks.length c2, .sl ob 0 x.tasks.length x.tasks.length, .sl ce 0 0 0, .sl H3.length 0 x.tasks.length x.tasks.length, .nils, .nils, .ptr gb 0, .ptr h7.length 0, .int .i64 0, .int .i64 0] := rfl
 simp [f2]
 have k9 := Keep.app NoneOf h7 [.arr [.nils] .tight, .arr [.int .i64 0, .nils, .sl b2 o2 x.tasks.length c2, .sl ob 0 x.tasks.length x.tasks.length, .sl ce 0 0 0, .sl H3.length 0 x.tasks.length x.tasks.length, .nils, .nils, .ptr gb 0, .ptr h7.length 0, .int .i64 0, .int .i64 0] .tight]
 have gc9 : (h7 ++ [Obj.arr [.nils] .tight, .arr [.int .i64 0, .nils, .sl b2 o2 x.tasks.length c2, .sl ob 0 x.tasks.length x.tasks.length, .sl ce 0 0 0, .sl H3.length 0 x.tasks.length x.tasks.length, .nils, .nils, .ptr gb 0, .ptr h7.length 0, .int .i64 0, .int .i64 0] .tight])[h7.length + 1]? = some (.arr [.int .i64 0, .nils, .sl b2 o2 x.tasks.length c2, .sl ob 0 x.tasks.length x.tasks.length, .sl ce 0 0 0, .sl H3.length 0 x.tasks.length x.tasks.length, .nils, .nils, .ptr gb 0, .ptr h7.length 0, .int .i64 0, .int .i64 0] .tight) := by simp
 have gt9 : (h7 ++ [Obj.arr [.nils] .tight, .arr [.int .i64 0, .nils, .sl b2 o2 x.tasks.length c2, .sl ob 0 x.tasks.length x.tasks.length, .sl ce 0 0 0, .sl H3.length 0 x.tasks.length x.tasks.length, .nils, .nils, .ptr gb 0, .ptr h7.length 0, .int .i64 0, .int .i64 0] .tight])[h7.length]? = some (.arr [.nils] .tight) := by simp
 generalize hH9 : h7 ++ [Obj.arr [.nils] .tight, .arr [.int .i64 0, .nils, .sl b2 o2 x.tasks.length c2, .sl ob 0 x.tasks.length x.tasks.length, .sl ce 0 0 0, .sl H3.length 0 x.tasks.length x.tasks.length, .nils, .nils, .ptr gb 0, .ptr h7.length 0, .int .i64 0, .int .i64 0] .tight] = H9 at *
 have hH9l : H9.length = h7.length + 2 := by rw [← hH9]; simp
 have l9 := ld (k9.at g7 id)
 simp [l9]
 refine W_loop (fun m e h' => m = 0 ∧ e = [(1, .ptr h.length 0), (6, .ptr (h7.length + 1) 0), (36, .nils), (37, .int .i64 0), (38, .int .i64 0)] ∧ h' = H9) ?_ 0 ⟨rfl, rfl, rfl⟩
 rintro m e H2 ⟨rfl, rfl, rfl⟩
 simp [l9]
 refine W_loop (fun m e h' => m = 0 ∧ e = [(6, .ptr (h7.length + 1) 0), (60, .int .i64 0), (61, .int .i64 0)] ∧ h' = H2) ?_ 0 ⟨rfl, rfl, rfl⟩
 rintro m e H5 ⟨rfl, rfl, rfl⟩
 simp
 have e5 := k5.len
 have e6 := k6.len
 have e7 := k7.len
 have hgb7 := lt_of_get gd.obj
 have hmb7 : mb < h7.length := by obtain ⟨es, cc, q, _⟩ := gd.map; exact lt_of_get q
 have hob5 := lt_of_get gob
 have st9 := (st6.on k7).on k9
 have gj9 := k9.at (k7.at (k6.at (k5.at gj4 id) id) id) id
 have go9 := k9.at (k7.at (k6.at gob id) id) id
 have hmo : Mine H5 1 (.sl ob 0 x.tasks.length x.tasks.length) (ints .i64 (downs x.tasks.length)) := .inr ⟨ob, _, .tight, rfl, by simp [ints, downs], .inl rfl, go9⟩
 refine ⟨((((((K3.trans k4).trans k5).trans k6).trans k7).trans k9)), h7.length + 1, H3.length, gb, mb, h7.length, .sl b2 o2 x.tasks.length c2, .sl ob 0 x.tasks.length x.tasks.length, .sl ce 0 0 0, pv, (List.replicate x.tasks.length deadC).flatten, fun y => y < h7.length ∧ y ≠ H3.length ∧ y ≠ gb ∧ y ≠ mb, rfl, ?_, by omega, by omega, by omega, by omega, by omega⟩
 refine ⟨gc9, gj9, gt9, gd.keep k9 (fun h => h) (fun h => h) fun _ _ h => h, st9.mono fun y hy => by have := hy.2; omega, ⟨_, hmo.read, ⟨hmo.ok, fun y hy => by simp [CV.blk] at hy; subst hy; omega⟩, rows_ints.2 rfl⟩, dead_rows _, by simp, by omega, by omega, by omega, by omega, by omega, by omega, by omega, by omega, by omega, fun y hy => by omega, fun y hy => ?_⟩
 have h1 := gd.per.blk_lt y hy
 have h2 := gd.apart y hy
 have h3 := hpv y hy
 omega
theorem rows_set {α : Type} {e : Cod α} {h : Heap} {P : Nat → Prop} {cells row : List CV} {l : List α} (r : Rows e h P cells l) {i : Nat} {x : α} (hi : i < l.length) (s : e.rep h P row x) : Rows e h P (splice cells (i * e.n) row) (l.set i x) := by
 have hr := e.len s
 have hin : (i + 1) * e.n ≤ cells.length := by rw [r.1]; exact Nat.mul_le_mul_right _ hi
 rw [Nat.succ_mul] at hin
 have hl1 : (cells.take (i * e.n)).length = i * e.n := by rw [List.length_take]; omega
 have hsp : splice cells (i * e.n) row = cells.take (i * e.n) ++ row ++ cells.drop (i * e.n + e.n) := by simp [splice, hr]
 rw [hsp]
 refine ⟨by simp [hr, hl1, ← r.1]; omega, fun j t hj => ?_⟩
 by_cases hji : j = i
 ·subst hji
  rw [List.getElem?_set_self hi] at hj
  obtain rfl := Option.some.inj hj
  rw [List.append_assoc, List.drop_left' hl1, ← hr, List.take_left' rfl]
  exact s
 ·rw [List.getElem?_set_ne (by omega)] at hj
  have q := r.2 j t hj
  by_cases hlt : j < i
  ·have hm : (j + 1) * e.n ≤ i * e.n := Nat.mul_le_mul_right _ hlt
   rw [Nat.succ_mul] at hm
   rw [List.append_assoc, List.drop_append_of_le_length (by omega), List.take_append_of_le_length (by rw [List.length_drop]; omega), List.drop_take, List.take_take, Nat.min_eq_left (by omega)]
   exact q
  ·have hm : (i + 1) * e.n ≤ j * e.n := Nat.mul_le_mul_right _ (by omega)
   rw [Nat.succ_mul] at hm
   have hl2 : (cells.take (i * e.n) ++ row).length = i * e.n + e.n := by rw [List.length_append, hl1, hr]
   have hd : (cells.take (i * e.n) ++ row ++ cells.drop (i * e.n + e.n)).drop (j * e.n) = cells.drop (j * e.n) := by
    obtain ⟨k, hk⟩ : ∃ k, j * e.n = (i * e.n + e.n) + k := ⟨j * e.n - (i * e.n + e.n), by omega⟩
    rw [hk, ← List.drop_drop, List.drop_left' hl2, List.drop_drop]
   rw [hd]
   exact q
structure CoreB where
 b : Nat
 jb : Nat
 gb : Nat
 mb : Nat
 tb : Nat
 tv : CV
 bv : CV
 cev : CV
 pv : CV
structure CoreS where
 jobs : List JobV
 f : Int → Option Int
 gn : Int
 now : Int
 seq : Int
def CoreB.own (K : CoreB) : Nat → Prop := fun y => y = K.b ∨ y = K.jb ∨ y = K.gb ∨ y = K.mb ∨ y = K.tb
def CoreA (K : CoreB) (cells : List CV) (l : List TaskV) (s : CoreS) (Q : Nat → Prop) (h : Heap) : Prop :=
 CoreI K.b K.jb K.gb K.mb K.tb K.tv K.bv K.cev K.pv cells Q l s.jobs s.f s.gn s.now s.seq h
def CoreN (K : CoreB) (l : List TaskV) (s : CoreS) (Q : Nat → Prop) (h h' : Heap) : Prop :=
 Keep K.own h h' ∧ ∃ Q' cells, CoreA K cells l s Q' h' ∧ ∀ y, Q' y → Q y ∨ h.length ≤ y
variable {K : CoreB} {cells : List CV} {l : List TaskV} {s : CoreS} {Q : Nat → Prop} {h h' : Heap}
theorem CoreA.own_lt (c : CoreA K cells l s Q h) : ∀ y, K.own y → y < h.length := by
 rintro y (rfl | rfl | rfl | rfl | rfl)
 ·exact lt_of_get c.g
 ·exact lt_of_get c.jg
 ·exact lt_of_get c.gd.obj
 ·exact c.gd.map.lt
 ·exact lt_of_get c.tg
theorem CoreA.apart (c : CoreA K cells l s Q h) : ∀ y, Q y → ¬ K.own y := by
 intro y hy ho
 have := c.hQ y hy
 rcases ho with e | e | e | e | e <;> omega
theorem CoreA.keep {S : Nat → Prop} (c : CoreA K cells l s Q h) (k : Keep S h h') (hS : ∀ y, S y → ¬ K.own y ∧ ¬ Q y) : CoreA K cells l s Q h' where
 g := k.at c.g fun x => (hS _ x).1 (.inl rfl)
 jg := k.at c.jg fun x => (hS _ x).1 (.inr (.inl rfl))
 tg := k.at c.tg fun x => (hS _ x).1 (.inr (.inr (.inr (.inr rfl))))
 gd := c.gd.keep k (fun x => (hS _ x).1 (.inr (.inr (.inl rfl)))) (fun x => (hS _ x).1 (.inr (.inr (.inr (.inl rfl))))) fun b hb x => (hS _ x).2 (c.pQ _ hb)
 ts := c.ts.keep k fun b hb x => (hS _ x).2 hb
 bs := c.bs.keep k fun b hb x => (hS _ x).2 hb
 rs := c.rs.keep k fun b hb x => (hS _ x).2 hb
 jl := c.jl
 a1 := c.a1
 a2 := c.a2
 a3 := c.a3
 a4 := c.a4
 a5 := c.a5
 a6 := c.a6
 a7 := c.a7
 a8 := c.a8
 a9 := c.a9
 hQ := fun y hy => by have := c.hQ y hy; have := k.len; omega
 pQ := c.pQ
theorem CoreA.on (c : CoreA K cells l s Q h) (k : Keep NoneOf h h') : CoreA K cells l s Q h' := c.keep k fun _ => False.elim
theorem CoreA.wide {Q' : Nat → Prop} (c : CoreA K cells l s Q h) (hQ : ∀ y, Q y → Q' y) (hQ' : ∀ y, Q' y → y < h.length ∧ ¬ K.own y) : CoreA K cells l s Q' h where
 g := c.g
 jg := c.jg
 tg := c.tg
 gd := c.gd
 ts := c.ts.mono hQ
 bs := c.bs.mono hQ
 rs := c.rs.mono hQ
 jl := c.jl
 a1 := c.a1
 a2 := c.a2
 a3 := c.a3
 a4 := c.a4
 a5 := c.a5
 a6 := c.a6
 a7 := c.a7
 a8 := c.a8
 a9 := c.a9
 hQ := fun y hy => ⟨(hQ' y hy).1, fun e => (hQ' y hy).2 (.inl e), fun e => (hQ' y hy).2 (.inr (.inl e)), fun e => (hQ' y hy).2 (.inr (.inr (.inl e))), fun e => (hQ' y hy).2 (.inr (.inr (.inr (.inl e)))), fun e => (hQ' y hy).2 (.inr (.inr (.inr (.inr e))))⟩
 pQ := fun y hy => hQ y (c.pQ y hy)
theorem CoreA.grow {N : Nat} (c : CoreA K cells l s Q h) (hN : ∀ y, K.own y → y < N) : CoreA K cells l s (fun y => Q y ∨ (N ≤ y ∧ y < h.length)) h :=
 c.wide (fun _ => .inl) fun y hy => hy.elim (fun hy => ⟨(c.hQ y hy).1, c.apart y hy⟩) fun hy => ⟨hy.2, fun o => by have := hN y o; omega⟩
theorem CoreA.jobN (c : CoreA K cells l s Q h) : cells.length = l.length * 10 := by
 have := c.rs.1
 rw [c.jl] at this
 exact this
theorem CoreA.setJob (c : CoreA K cells l s Q h) {i : Nat} (hi : i < l.length) {row : List CV} {x : JobV} (r : jobC.rep h Q row x) :
  CoreA K (splice cells (i * 10) row) l { s with jobs := s.jobs.set i x } Q (h.set K.jb (.arr (splice cells (i * 10) row) .tight)) := by
 have k : Keep (fun y => y = K.jb) h (h.set K.jb (.arr (splice cells (i * 10) row) .tight)) := Keep.set _ _ rfl
 have q : ∀ y, Q y → ¬ y = K.jb := fun y hy e => c.apart y hy (.inr (.inl e))
 refine ⟨k.at c.g c.a1, get_set_self (lt_of_get c.jg), k.at c.tg c.a7.symm, c.gd.keep k c.a5.symm c.a6.symm fun y hy => q y (c.pQ y hy), c.ts.keep k q, c.bs.keep k q, ?_, by simpa using c.jl, c.a1, c.a2, c.a3, c.a4, c.a5, c.a6, c.a7, c.a8, c.a9, fun y hy => by simpa using c.hQ y hy, c.pQ⟩
 exact (rows_set (e := jobC) c.rs (by have := c.jl; omega) r).keep k q
theorem CoreA.setNow (c : CoreA K cells l s Q h) (now seq : Int) :
  CoreA K cells l { s with now := now, seq := seq } Q (h.set K.b (.arr [.int .i64 0, .nils, K.tv, K.bv, K.cev, .sl K.jb 0 l.length l.length, .nils, .nils, .ptr K.gb 0, .ptr K.tb 0, .int .i64 now, .int .i64 seq] .tight)) := by
 have k : Keep (fun y => y = K.b) h (h.set K.b (.arr [.int .i64 0, .nils, K.tv, K.bv, K.cev, .sl K.jb 0 l.length l.length, .nils, .nils, .ptr K.gb 0, .ptr K.tb 0, .int .i64 now, .int .i64 seq] .tight)) := Keep.set _ _ rfl
 have q : ∀ y, Q y → ¬ y = K.b := fun y hy e => c.apart y hy (.inl e)
 exact ⟨get_set_self (lt_of_get c.g), k.at c.jg c.a1.symm, k.at c.tg c.a4.symm, c.gd.keep k c.a2.symm c.a3.symm fun y hy => q y (c.pQ y hy), c.ts.keep k q, c.bs.keep k q, c.rs.keep k q, c.jl, c.a1, c.a2, c.a3, c.a4, c.a5, c.a6, c.a7, c.a8, c.a9, fun y hy => by simpa using c.hQ y hy, c.pQ⟩
theorem CoreA.setGuard {f : Int → Option Int} {gn : Int} (c : CoreA K cells l s Q h) (k : Keep (fun y => y = K.gb ∨ y = K.mb) h h') (gd : GuardAt h' K.gb K.pv K.mb (l.map (·.per)) f gn) : CoreA K cells l { s with f := f, gn := gn } Q h' := by
 have q : ∀ y, Q y → ¬ (y = K.gb ∨ y = K.mb) := fun y hy e => c.apart y hy (.inr (.inr (e.imp id .inl)))
 exact ⟨k.at c.g fun e => by have := c.a2; have := c.a3; omega, k.at c.jg fun e => by have := c.a5; have := c.a6; omega, k.at c.tg fun e => by have := c.a8; have := c.a9; omega, gd, c.ts.keep k q, c.bs.keep k q, c.rs.keep k q, c.jl, c.a1, c.a2, c.a3, c.a4, c.a5, c.a6, c.a7, c.a8, c.a9, fun y hy => by have := c.hQ y hy; have := k.len; omega, c.pQ⟩
theorem CoreN.refl (c : CoreA K cells l s Q h) : CoreN K l s Q h h := ⟨Keep.refl _ _, Q, cells, c, fun y => .inl⟩
theorem CoreN.same (c : CoreA K cells l s Q h) (k : Keep NoneOf h h') : CoreN K l s Q h h' := ⟨k.mono fun _ _ => False.elim, Q, cells, c.on k, fun y => .inl⟩
theorem CoreN.on {h2 : Heap} (n : CoreN K l s Q h h') (k : Keep NoneOf h' h2) : CoreN K l s Q h h2 := by
 obtain ⟨k1, Q', cs, c, q⟩ := n
 exact ⟨k1.trans (k.mono fun _ _ => False.elim), Q', cs, c.on k, q⟩
theorem CoreN.from {h1 : Heap} (k : Keep NoneOf h h1) (n : CoreN K l s Q h1 h') : CoreN K l s Q h h' := by
 obtain ⟨k1, Q', cs, c, q⟩ := n
 exact ⟨(k.mono fun _ _ => False.elim).trans k1, Q', cs, c, fun y hy => (q y hy).imp id fun e => by have := k.len; omega⟩
theorem CoreA.row (c : CoreA K cells l s Q h) {i : Nat} (hi : i < l.length) : ∃ x fv hv, s.jobs[i]? = some x ∧ (cells.drop (i * 10)).take 10 = jobCells x fv hv ∧ Sl opC h Q fv x.flat ∧ Sl (.int .i64) h Q hv x.held ∧
  idxAddrV 10 (.sl K.jb 0 l.length l.length) (.int .i64 (i : Int)) = some (.ptr K.jb (i * 10)) ∧ (∀ k, k < 10 → cells[i * 10 + k]? = (jobCells x fv hv)[k]?) ∧ i * 10 + 10 ≤ cells.length := by
 have hn : i < s.jobs.length := by have := c.jl; omega
 obtain ⟨fv, hv, e, s1, s2⟩ := c.rs.2 i s.jobs[i] (List.getElem?_eq_getElem hn)
 have h10 : jobC.n = 10 := rfl
 rw [h10] at e
 have hcl := c.jobN
 refine ⟨s.jobs[i], fv, hv, List.getElem?_eq_getElem hn, e, s1, s2, ?_, fun k hk => ?_, by omega⟩
 ·rw [idxAddrV_sl, if_pos ⟨by omega, by omega⟩]; simp
 ·rw [← e, List.getElem?_take_of_lt hk, List.getElem?_drop]
set_option maxHeartbeats 1000000
variable {p : PP} {K : CoreB} {cells : List CV} {l : List TaskV} {s : CoreS} {Q : Nat → Prop} {h h' : Heap}
theorem known323 (lp : LP p) (c : CoreA K cells l s Q h) (i : Int) : WF p 323 [.ptr K.b 0, .int .i64 i] h fun r h' => r = .bool (decide (0 ≤ i ∧ i < l.length)) ∧ h' = h := by
 refine WF_of (by rw [lp.pg]; exact S.pg323) (lp.no ⟨rfl, rfl⟩) ?_
 show W p S.b323 _ _ (retQ [.t 4] _)
 unfold S.b323
 have lC := ld c.g
 by_cases h0 : 0 ≤ i
 ·by_cases h1 : i < l.length
  ·simp [lC, h0, h1]
  ·simp [lC, h0, h1]
 ·simp [lC, h0]
theorem now444 (lp : LP p) (c : CoreA K cells l s Q h) : WF p 444 [.ptr K.b 0] h fun r h' => r = .int .i64 s.now ∧ h' = h := by
 refine WF_of (by rw [lp.pg]; exact S.pg444) (lp.no ⟨rfl, rfl⟩) ?_
 show W p S.b444 _ _ (retQ [.t 2] _)
 unfold S.b444
 have lC := ld c.g
 simp [lC]
theorem next324 (lp : LP p) (c : CoreA K cells l s Q h) (hs : IntKind.i64.wrap (s.seq + 1) = s.seq + 1) : WF p 324 [.ptr K.b 0] h fun r h' => r = .int .i64 (s.seq + 1) ∧ Keep (fun y => y = K.b) h h' ∧ h'.length = h.length ∧ CoreA K cells l { s with seq := s.seq + 1 } Q h' := by
 refine WF_of (by rw [lp.pg]; exact S.pg324) (lp.no ⟨rfl, rfl⟩) ?_
 show W p S.b324 _ _ (retQ [.t 2] _)
 unfold S.b324
 have lC := ld c.g
 have s1 := sto1 c.g (o := 11) (v := .int .i64 (s.seq + 1)) (by simp) rfl
 simp at s1
 have c1 := c.setNow s.now (s.seq + 1)
 have l1 := ld c1.g
 simp [lC, hs, s1, l1]
 exact ⟨Keep.set _ _ rfl, c1⟩
theorem next316 (lp : LP p) (c : CoreA K cells l s Q h) (hs : IntKind.i64.wrap (s.now + 1) = s.now + 1) : WF p 316 [.ptr K.b 0] h fun r h' => CoreN K l { s with now := s.now + 1 } Q h h' := by
 refine WF_of (by rw [lp.pg]; exact S.pg316) (lp.no ⟨rfl, rfl⟩) ?_
 show W p S.b316 _ _ (retQ [] _)
 unfold S.b316
 have lC := ld c.g
 have s1 := sto1 c.g (o := 10) (v := .int .i64 (s.now + 1)) (by simp) rfl
 simp at s1
 have c1 := c.setNow (s.now + 1) s.seq
 simp [lC, hs, s1]
 exact ⟨Keep.set _ _ (.inl rfl), Q, cells, c1, fun y => .inl⟩
theorem expire449 (lp : LP p) (c : CoreA K cells l s Q h) : WF p 449 [.ptr K.b 0] h fun r h' => r = .nils ∧ h' = h := by
 refine WF_of (by rw [lp.pg]; exact S.pg449) (lp.no ⟨rfl, rfl⟩) ?_
 show W p S.b449 _ _ (retQ [.t 2] _)
 unfold S.b449
 have lC := ld c.g
 have lT := ld c.tg
 simp [lC]
 refine WF_of (by rw [lp.pg]; exact S.pg454) (lp.no ⟨rfl, rfl⟩) ?_
 show W p S.b454 _ _ (retQ [.t 2] _)
 unfold S.b454
 simp [lT]
 refine W_loop (fun m e h' => m = 0 ∧ e = [(0, .ptr K.tb 0), (3, .nils), (9, .bool false)] ∧ h' = h) ?_ 0 ⟨rfl, rfl, rfl⟩
 rintro m e h' ⟨rfl, rfl, rfl⟩
 simp [lT]
 refine W_loop (fun m e h2 => m = 0 ∧ e = [(0, .ptr K.b 0), (3, .nils), (10, .nils), (11, .int .i64 0), (12, .int .i64 0)] ∧ h2 = h') ?_ 0 ⟨rfl, rfl, rfl⟩
 rintro m e h2 ⟨rfl, rfl, rfl⟩
 simp
def liveAt (s : CoreS) (i : Int) : Bool := if i < 0 then false else match s.jobs[i.toNat]? with | some x => x.live | none => false
def evt (t k i er : Int) : List CV := [.int .i64 t, .int .i64 k, .int .i64 i, .int .i64 0, .int .i64 er, .int .i64 0, .int .i64 0]
theorem evt_fill {t k i er : Int} : fillC [.int .i64 0, .int .i64 0, .int .i64 0, .int .i64 0, .int .i64 0, .int .i64 0, .int .i64 0] [(0, 1, .int .i64 t), (1, 1, .int .i64 k), (2, 1, .int .i64 i), (4, 1, .int .i64 er)] = some (evt t k i er) := rfl
theorem evt_fill3 {t k i : Int} : fillC [.int .i64 0, .int .i64 0, .int .i64 0, .int .i64 0, .int .i64 0, .int .i64 0, .int .i64 0] [(0, 1, .int .i64 t), (1, 1, .int .i64 k), (2, 1, .int .i64 i)] = some (evt t k i 0) := rfl
theorem evt_fill2 {t k : Int} : fillC [.int .i64 0, .int .i64 0, .int .i64 0, .int .i64 0, .int .i64 0, .int .i64 0, .int .i64 0] [(0, 1, .int .i64 t), (1, 1, .int .i64 k)] = some (evt t k 0 0) := rfl
theorem evt_len {t k i er : Int} : (evt t k i er).length = 7 := rfl
def askErr (l : List TaskV) (s : CoreS) (i : Int) : Int := askE (l.map (·.per)) s.f s.gn i s.now (liveAt s i)
def askS (l : List TaskV) (s : CoreS) (i : Nat) : CoreS :=
 match l[i]? with
 | some t => ⟨s.jobs.set i (newF t.prog t.bud s.now (s.seq + 1)), updI s.f i s.now, s.now, s.now, s.seq + 1⟩
 | none => s
theorem liveAt_known (c : CoreA K cells l s Q h) (i : Int) : liveAt s i = (decide (0 ≤ i ∧ i < l.length) && liveAt s i) := by
 by_cases hi : 0 ≤ i ∧ i < l.length
 ·simp [hi]
 ·simp only [hi, decide_false, Bool.false_and]
  unfold liveAt
  split
  ·rfl
  ·rw [List.getElem?_eq_none (by have := c.jl; omega)]
theorem ask_no (lp : LP p) (c : CoreA K cells l s Q h) (i : Int) (he : askErr l s i ≠ 0) : WF p 306 [.ptr K.b 0, .int .i64 i] h fun r h' => r = .agg (evt s.now 2 i (askErr l s i)) ∧ CoreN K l s Q h h' := by
 refine WF_of (by rw [lp.pg]; exact S.pg306) (lp.no ⟨rfl, rfl⟩) ?_
 show W p S.b306 _ _ (retQ [.cell (some 7) 4] _)
 unfold S.b306
 have kap := Keep.app NoneOf h [.arr [.int .i64 0, .int .i64 0, .int .i64 0, .int .i64 0, .int .i64 0, .int .i64 0, .int .i64 0] .tight]
 have c0 := c.on kap
 have g0 := get_new (h := h) (o := .arr [.int .i64 0, .int .i64 0, .int .i64 0, .int .i64 0, .int .i64 0, .int .i64 0, .int .i64 0] .tight)
 have hl0 : (h ++ [Obj.arr [.int .i64 0, .int .i64 0, .int .i64 0, .int .i64 0, .int .i64 0, .int .i64 0, .int .i64 0] .tight]).length = h.length + 1 := by simp
 simp
 generalize h ++ [Obj.arr [.int .i64 0, .int .i64 0, .int .i64 0, .int .i64 0, .int .i64 0, .int .i64 0, .int .i64 0] .tight] = H0 at *
 refine (known323 lp c0 i).mono ?_
 rintro r h1 ⟨rfl, rfl⟩
 have lC := ld c0.g
 have key : WF p 6 [.ptr K.gb 0, .int .i64 i, .int .i64 s.now, .bool (liveAt s i)] h1 fun r h2 => r = .int .i64 (askErr l s i) ∧ h2 = h1 := by
  refine (ask_spec (by rw [lp.pg]; exact S.pg6) (lp.no ⟨rfl, rfl⟩) c0.gd i s.now (liveAt s i)).mono ?_
  rintro r h2 ⟨rfl, q, _⟩
  rw [if_neg (show ¬ askE (l.map (·.per)) s.f s.gn i s.now (liveAt s i) = 0 from he)] at q
  exact ⟨rfl, q⟩
 have s1 := sto g0 (vs := evt s.now 2 i (askErr l s i)) rfl rfl
 have K1 : Keep NoneOf h (h1.set h.length (.arr (evt s.now 2 i (askErr l s i)) .tight)) := kap.then (Keep.set (S := fun y => y = h.length) _ _ rfl) fun y hy e => by omega
 have w1 := ldw (get_set_self (o := .arr (evt s.now 2 i (askErr l s i)) .tight) (lt_of_get g0)) (n := 7) rfl
 have fin : WO p [] [] [] (h1.set h.length (.arr (evt s.now 2 i (askErr l s i)) .tight)) fun _ h' => CoreN K l s Q h h' := by
  rw [WO_nil]; exact CoreN.same c K1
 rw [WO_nil] at fin
 by_cases hi : 0 ≤ i ∧ i < l.length
 ·obtain ⟨n, rfl⟩ : ∃ n : Nat, i = n := ⟨i.toNat, by omega⟩
  have hn : n < l.length := by omega
  obtain ⟨x, fv, hv, hx, e, s1', s2', hix, hc, hb⟩ := c0.row hn
  have hlv : liveAt s n = x.live := by simp [liveAt, hx]
  have hc0 := hc 0 (by omega)
  simp [jobCells] at hc0
  have lJ := ld c0.jg
  rw [hlv] at key
  simp [hi, lC, hix, hn, lJ, hc0]
  refine key.mono ?_
  rintro r h2 ⟨rfl, rfl⟩
  simp [he, lC]
  simp [evt_fill, evt_len, s1, w1]
  exact fin
 ·have hlv : liveAt s i = false := by rw [liveAt_known c i]; simp [hi]
  rw [hlv] at key
  simp [hi, lC]
  refine key.mono ?_
  rintro r h2 ⟨rfl, rfl⟩
  simp [he, lC]
  simp [evt_fill, evt_len, s1, w1]
  exact fin
theorem ask_yes (lp : LP p) (c : CoreA K cells l s Q h) {i : Nat} (hi : i < l.length) (he : askErr l s i = 0) (hs : IntKind.i64.wrap (s.seq + 1) = s.seq + 1) (hb : l[i].prog.length ≤ big) (hk : ∀ o ∈ l[i].prog, o.kind ≠ 8) :
  WF p 306 [.ptr K.b 0, .int .i64 i] h fun r h' => r = .agg (evt s.now 1 i 0) ∧ CoreN K l (askS l s i) Q h h' := by
 refine WF_of (by rw [lp.pg]; exact S.pg306) (lp.no ⟨rfl, rfl⟩) ?_
 show W p S.b306 _ _ (retQ [.cell (some 7) 4] _)
 unfold S.b306
 have kap := Keep.app NoneOf h [.arr [.int .i64 0, .int .i64 0, .int .i64 0, .int .i64 0, .int .i64 0, .int .i64 0, .int .i64 0] .tight]
 have c0 := c.on kap
 have g0 := get_new (h := h) (o := .arr [.int .i64 0, .int .i64 0, .int .i64 0, .int .i64 0, .int .i64 0, .int .i64 0, .int .i64 0] .tight)
 have hl0 : (h ++ [Obj.arr [.int .i64 0, .int .i64 0, .int .i64 0, .int .i64 0, .int .i64 0, .int .i64 0, .int .i64 0] .tight]).length = h.length + 1 := by simp
 simp
 generalize h ++ [Obj.arr [.int .i64 0, .int .i64 0, .int .i64 0, .int .i64 0, .int .i64 0, .int .i64 0, .int .i64 0] .tight] = H0 at *
 refine (known323 lp c0 i).mono ?_
 rintro r h1 ⟨rfl, rfl⟩
 have lC := ld c0.g
 obtain ⟨x, fv, hv, hx, e, s1', s2', hix, hc, hbd⟩ := c0.row hi
 have hlv : liveAt s i = x.live := by simp [liveAt, hx]
 have hc0 := hc 0 (by omega)
 simp [jobCells] at hc0
 have lJ := ld c0.jg
 simp [hi, lC, hix, lJ, hc0]
 have hin : 0 ≤ (i : Int) ∧ (i : Int) < l.length := by omega
 refine (ask_spec (by rw [lp.pg]; exact S.pg6) (lp.no ⟨rfl, rfl⟩) c0.gd i s.now x.live).mono ?_
 rintro r h2 ⟨rfl, q, k2, hl2⟩
 have he' : askE (l.map (·.per)) s.f s.gn i s.now x.live = 0 := by rw [← hlv]; exact he
 rw [if_pos he'] at q
 have c2 := c0.setGuard k2 q
 have hown := c.own_lt
 have g2 := k2.at g0 fun e => by
  rcases e with e | e
  ·have := hown K.gb (.inr (.inr (.inl rfl))); omega
  ·have := hown K.mb (.inr (.inr (.inr (.inl rfl)))); omega
 have lC2 := ld c2.g
 obtain ⟨b0, o0, pv, x1, x2, _, sp⟩ := taskRow c2.ts hi
 have sn := store_new (h := h2) (row := tkL l[i] pv) (z := [.str [], .int .i64 0, .int .i64 0, .int .i64 0, .nils]) rfl (tkL_flat sp.scalar)
 have tkl : (tkL l[i] pv).length = 5 := rfl
 have t4 : (tkL l[i] pv)[4]? = some pv := rfl
 have t3 : (tkL l[i] pv)[3]? = some (.int .i64 l[i].bud) := rfl
 have kap2 := Keep.app NoneOf h2 [.arr (tkL l[i] pv) .tight]
 have g7 := get_new (h := h2) (o := .arr (tkL l[i] pv) .tight)
 have c3 := c2.on kap2
 have g3 := kap2.at g2 id
 have hl3 : (h2 ++ [Obj.arr (tkL l[i] pv) .tight]).length = h2.length + 1 := by simp
 have sp3 := sp.on kap2
 simp [he', lC2, x1, x2, sn, tkl]
 generalize h2 ++ [Obj.arr (tkL l[i] pv) .tight] = H3 at *
 have lC3 := ld c3.g
 have lT3 := ld g7
 simp [lC3, lT3, t4, t3]
 refine WO_re_n ?_
 simp
 refine (next324 lp c3 hs).mono ?_
 rintro r h4 ⟨rfl, k4, hl4, c4⟩
 have lC4 := ld c4.g
 have hKb := hown K.b (.inl rfl)
 have g74 := k4.at g7 (by omega)
 have lT4 := ld g74
 have g4 := k4.at g3 (by omega)
 refine ⟨fun c' => by simp [recheckB, wanted, Env.get, cls, evOp, Opd.ev, withH, CV.eqb, CV.eqb_refl, CV.eqbL_refl, lC4, lT4, t3, t4, i64], ?_⟩
 refine WO_re_n ?_
 simp
 have sp4 := sp3.keep k4 fun y hy e => c3.apart y hy (.inl e)
 refine (jobNew_spec lp.pg (lp.no ⟨rfl, rfl⟩) (lp.no ⟨rfl, rfl⟩) sp4 hb hk).mono ?_
 rintro r h5 ⟨k5, d, rfl, rd⟩
 have c5 := c4.on k5
 have lC5 := ld c5.g
 have g5 := k5.at g4 id
 refine ⟨fun c' => by simp [recheckB, wanted, Env.get, cls, evOp, Opd.ev, withH, CV.eqb, CV.eqb_refl, CV.eqbL_refl, lC5, i64], ?_⟩
 have kl5 := k5.len
 have c6 := c5.grow (N := h4.length) fun y hy => by have := hown y hy; omega
 have rd6 : jobC.rep h5 (fun y => Q y ∨ (h4.length ≤ y ∧ y < h5.length)) d (newF l[i].prog l[i].bud s.now (s.seq + 1)) := jobC.mono (jobC.lt rd) fun y hy => hy.1.imp id fun e => ⟨e, hy.2⟩
 have dl := jobC.len rd
 have dl : d.length = 10 := dl
 have df := jobC.flat rd
 have c7 := c6.setJob hi rd6
 have sj : storeAt h5 K.jb (i * 10) d = some (h5.set K.jb (.arr (splice cells (i * 10) d) .tight)) := by
  rw [stt c5.jg, if_pos ⟨by rw [dl]; exact hbd, df⟩]
 have g7' := (Keep.set (S := fun y => y = K.jb) h5 (.arr (splice cells (i * 10) d) .tight) rfl).at g5 (by have := hown K.jb (.inr (.inl rfl)); omega)
 have hca : ∀ l, (CV.agg l).cells = l := fun _ => rfl
 simp [hix, hi, dl, hca, sj]
 have K7 : Keep K.own h (h5.set K.jb (.arr (splice cells (i * 10) d) .tight)) := by
  have a1 : Keep K.own h h2 := (kap.mono fun _ _ => False.elim).then k2 fun y _ e => .inr (.inr (e.imp id .inl))
  exact (((a1.then kap2 fun y _ => False.elim).then k4 fun y _ e => .inl e).then k5 fun y _ => False.elim).then (Keep.set (S := fun y => y = K.jb) _ _ rfl) fun y _ e => .inr (.inl e)
 generalize h5.set K.jb (.arr (splice cells (i * 10) d) .tight) = H7 at *
 have lC7 := ld c7.g
 have s1 := sto g7' (vs := evt s.now 1 i 0) rfl rfl
 have w1 := ldw (get_set_self (o := .arr (evt s.now 1 i 0) .tight) (lt_of_get g7')) (n := 7) rfl
 simp [lC7, evt_fill3, evt_len, s1, w1, hca]
 have k8 : Keep (fun y => y = h.length) H7 (H7.set h.length (.arr (evt s.now 1 i 0) .tight)) := Keep.set _ _ rfl
 have hS : askS l s i = ⟨s.jobs.set i (newF l[i].prog l[i].bud s.now (s.seq + 1)), updI s.f i s.now, s.now, s.now, s.seq + 1⟩ := by simp [askS, List.getElem?_eq_getElem hi]
 rw [hS]
 refine ⟨K7.then k8 fun y hy e => by omega, _, _, c7.keep k8 fun y e => ⟨fun o => by have := hown y o; omega, fun q => ?_⟩, fun y hy => hy.imp id fun e => by omega⟩
 rcases q with q | q
 ·have := (c.hQ y q).1; omega
 ·omega
end Go.Cl
