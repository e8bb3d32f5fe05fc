/-
  Texts laid together: AXT.
-/
import Derived.Test.YtlndogibbgibgaaGreatDoorMV1
namespace Go.Cl
open Go
set_option linter.unusedSimpArgs false
set_option linter.unusedVariables false
set_option maxHeartbeats 1000000
variable {p p' : PP}
theorem wu8 {x : Int} (h0 : 0 ≤ x) (h1 : x ≤ 255) : IntKind.u8.wrap x = x := by
 simp only [IntKind.wrap, IntKind.bits, IntKind.signed, Bool.false_and, Bool.false_eq_true, if_false]
 omega
theorem WF_kn {f : Nat} (hp : p.pr f = addKnown [f] noPr f) {h : Heap} {K : CV → Heap → Prop} (k : K (.bool true) h) : WF p f [] h K := by
 refine ⟨1, .bool true, h, ?_, k⟩
 show evCall p.Pg p.pr 1 f [] h = _
 have : [f].contains f = true := by simp
 simp only [evCall, hp, addKnown, this]
def lkCells (m : Int) : List CV := [.int .i64 2, .int .i64 0, .int .i64 0, .int .i64 0, .nils, .int .i64 1, .int .i64 m, .int .i64 0, .int .i64 0, .nils, .int .i64 3, .int .i64 0, .int .i64 0, .int .i64 0, .nils]
def tkCells (c : List UInt8) (d g : Int) (v : CV) : List CV := [.str c, .int .i64 500, .int .i64 d, .int .i64 g, v]
theorem ab_load {h : Heap} {o1 o3 r1 r2 : List CV} (h1 : r1.length = 5) (h2 : r2.length = 5) : loadAt (h ++ [.arr o1 .tight, .arr r1 .tight, .arr o3 .tight, .arr r2 .tight]) (h.length + 1) 0 (some 5) = some (.agg r1) ∧ loadAt (h ++ [.arr o1 .tight, .arr r1 .tight, .arr o3 .tight, .arr r2 .tight]) (h.length + 2 + 1) 0 (some 5) = some (.agg r2) := by
 have g1 : (h ++ [Obj.arr o1 .tight, .arr r1 .tight, .arr o3 .tight, .arr r2 .tight])[h.length + 1]? = some (.arr r1 .tight) := by simp
 have g2 : (h ++ [Obj.arr o1 .tight, .arr r1 .tight, .arr o3 .tight, .arr r2 .tight])[h.length + 2 + 1]? = some (.arr r2 .tight) := by
  show _[h.length + 3]? = _
  simp
 exact ⟨ldw g1 h1, ldw g2 h2⟩
theorem slAt {α : Type} {e : Cod α} {h : Heap} {P : Nat → Prop} {b n : Nat} {cells : List CV} {l : List α} (g : h[b]? = some (.arr cells .tight)) (r : Rows e h P cells l) (hn : l.length = n) (hb : P b) : Sl e h P (.sl b 0 n n) l := by
 subst hn
 have m : Mine h e.n (.sl b 0 l.length l.length) cells := .inr ⟨b, l.length, .tight, rfl, r.1, .inl rfl, g⟩
 exact ⟨_, m.read, ⟨m.ok, fun y hy => by simp [CV.blk] at hy; rw [← hy]; exact hb⟩, r⟩
theorem lk_rows {h : Heap} {P : Nat → Prop} {m : Int} : Rows opC h P (lkCells m) (lkProg m) :=
 Rows.append (c := [.int .i64 2, .int .i64 0, .int .i64 0, .int .i64 0, .nils]) (l := [⟨2, 0, 0, 0, []⟩]) (Rows.one (e := opC) ⟨.nils, rfl, Sl.nil⟩)
  (Rows.append (c := [.int .i64 1, .int .i64 m, .int .i64 0, .int .i64 0, .nils]) (l := [⟨1, m, 0, 0, []⟩]) (Rows.one (e := opC) ⟨.nils, rfl, Sl.nil⟩) (Rows.one (e := opC) ⟨.nils, rfl, Sl.nil⟩))
theorem ab_tasks {h : Heap} {b hh : Int} : Sl taskC (h ++ [.arr (lkCells hh) .tight, .arr (tkCells [108] 200 b (.sl h.length 0 3 3)) .tight, .arr (lkCells 1) .tight, .arr (tkCells [104] 100 9 (.sl (h.length + 2) 0 3 3)) .tight, .arr (tkCells [108] 200 b (.sl h.length 0 3 3) ++ tkCells [104] 100 9 (.sl (h.length + 2) 0 3 3)) .tight]) (From h) (.sl (h.length + 4) 0 2 2) (abSet b hh).tasks := by
 have g0 : (h ++ [Obj.arr (lkCells hh) .tight, .arr (tkCells [108] 200 b (.sl h.length 0 3 3)) .tight, .arr (lkCells 1) .tight, .arr (tkCells [104] 100 9 (.sl (h.length + 2) 0 3 3)) .tight, .arr (tkCells [108] 200 b (.sl h.length 0 3 3) ++ tkCells [104] 100 9 (.sl (h.length + 2) 0 3 3)) .tight])[h.length]? = some (.arr (lkCells hh) .tight) := by simp
 have g2 : (h ++ [Obj.arr (lkCells hh) .tight, .arr (tkCells [108] 200 b (.sl h.length 0 3 3)) .tight, .arr (lkCells 1) .tight, .arr (tkCells [104] 100 9 (.sl (h.length + 2) 0 3 3)) .tight, .arr (tkCells [108] 200 b (.sl h.length 0 3 3) ++ tkCells [104] 100 9 (.sl (h.length + 2) 0 3 3)) .tight])[h.length + 2]? = some (.arr (lkCells 1) .tight) := by simp
 have g4 : (h ++ [Obj.arr (lkCells hh) .tight, .arr (tkCells [108] 200 b (.sl h.length 0 3 3)) .tight, .arr (lkCells 1) .tight, .arr (tkCells [104] 100 9 (.sl (h.length + 2) 0 3 3)) .tight, .arr (tkCells [108] 200 b (.sl h.length 0 3 3) ++ tkCells [104] 100 9 (.sl (h.length + 2) 0 3 3)) .tight])[h.length + 4]? = some (.arr (tkCells [108] 200 b (.sl h.length 0 3 3) ++ tkCells [104] 100 9 (.sl (h.length + 2) 0 3 3)) .tight) := by simp
 refine slAt g4 (Rows.append (l := [abLow b hh]) (Rows.one (e := taskC) ⟨_, rfl, ?_⟩) (Rows.one (e := taskC) ⟨_, rfl, ?_⟩)) rfl (by simp [From])
 ·exact slAt g0 lk_rows rfl (by simp [From])
 ·exact slAt g2 lk_rows rfl (by simp [From])
theorem askLX_len {X : SetV} : ∀ {a : List Int} {s : CoreX}, (askLX X a s).2.length = a.length
 | [], s => rfl
 | i :: r, s => by simp only [askLX, List.length_cons]; rw [askLX_len]
structure AbH (K : CoreW) (eb : Nat) (X : SetV) (s : CoreX) (h : Heap) (h' : Heap) : Prop where
 k : Keep NoneOf h h'
 core : ∃ Q cells, CoreV K cells X s Q h'
 eg : h'[eb]? = some (.arr [.ptr K.b 0] .tight)
 eo : ¬ K.own eb
 own : ∀ y, K.own y → h.length ≤ y
 fit : Fit X s
def AbI (K : CoreW) (eb : Nat) (X : SetV) (b : Int) (h : Heap) (m : Nat) (e : Env) (h' : Heap) : Prop :=
 ∃ (t : Nat) (s : CoreX) (a d : Int), (t : Int) ≤ b + 2 ∧ m = (b.toNat + 2) - t ∧ abRun X b m t s a d = true ∧ AbH K eb X s h h' ∧ 0 ≤ a ∧ a < 1000 ∧ 0 ≤ d ∧ d < 1000 ∧ e = [(5, .int .i64 b), (9, .ptr eb 0), (11, .int .i64 a), (12, .int .i64 d), (13, .int .i64 t)]
def AbM (eb : Nat) (b a d : Int) (t : Nat) (l : List Int) (h : Heap) (e : Env) (h' : Heap) : Prop :=
 ∃ av r, e = (5, .int .i64 b) :: (9, .ptr eb 0) :: (11, .int .i64 a) :: (12, .int .i64 d) :: (13, .int .i64 t) :: (14, av) :: r ∧ Keep NoneOf h h' ∧ Sl (.int .i64) h' (From h) av l
def AbC (eb : Nat) (b : Int) (E : List (List CV)) (a' d' : Int) (t : Nat) (v : CV) (h : Heap) (m : Nat) (e : Env) (h' : Heap) : Prop :=
 ∃ (i : Nat) (a d : Int), i ≤ E.length ∧ m = E.length - i ∧ abCnt b (E.drop i) a d = some (a', d') ∧ 0 ≤ a ∧ a ≤ 1000 + i ∧ 0 ≤ d ∧ d ≤ 1000 + i ∧ e = [(5, .int .i64 b), (9, .ptr eb 0), (11, .int .i64 a), (12, .int .i64 d), (13, .int .i64 t), (15, v), (17, .int .i64 i)] ∧ h' = h
theorem engineAborts_law (la : LA p p') (hp9 : p.pr 439 = addKnown [439] noPr 439) {h : Heap} {n q : Int} (hn : 0 ≤ n ∧ n ≤ 255) (hq : 0 ≤ q ∧ q ≤ 255) :
  WF p 480 [.int .u8 n, .int .u8 q] h fun r h' => r = .bool true := by
 have lp := la.lp
 refine WF_of (by rw [lp.pg]; exact S.pg480) (lp.no ⟨rfl, rfl⟩) ?_
 show W p S.b480 _ _ (retQ [.t 4] _)
 unfold S.b480
 simp
 refine WF_kn hp9 ?_
 have hB : ∃ B : Nat, B < 20 ∧ q.tmod 20 = B := ⟨(q.tmod 20).toNat, by have := Int.tmod_lt_of_pos q (b := 20) (by omega); have := Int.tmod_nonneg (a := q) 20 hq.1; omega, by have := Int.tmod_nonneg (a := q) 20 hq.1; omega⟩
 have hD : ∃ D : Nat, D < 20 ∧ n.tmod 20 = D := ⟨(n.tmod 20).toNat, by have := Int.tmod_lt_of_pos n (b := 20) (by omega); have := Int.tmod_nonneg (a := n) 20 hn.1; omega, by have := Int.tmod_nonneg (a := n) 20 hn.1; omega⟩
 obtain ⟨B, hB20, hqB⟩ := hB
 obtain ⟨D, hD20, hnD⟩ := hD
 have hall := ab_all hB20 hD20
 have u1 : IntKind.u8.wrap (B : Int) = B := wu8 (by omega) (by omega)
 have u2 : IntKind.u8.wrap (D : Int) = D := wu8 (by omega) (by omega)
 have u3 : IntKind.i64.wrap (B : Int) = B := w64 (by omega) (by omega)
 have u4 : IntKind.i64.wrap (D : Int) = D := w64 (by omega) (by omega)
 obtain ⟨b, hb⟩ : ∃ b : Int, b = 1 + B := ⟨_, rfl⟩
 rw [← hb] at hall
 have u5 : IntKind.i64.wrap (1 + (B : Int)) = b := by rw [w64 (by omega) (by omega)]; omega
 have u6 : IntKind.i64.wrap (b + 1) = b + 1 := w64 (by omega) (by omega)
 obtain ⟨hh, hhd⟩ : ∃ hh : Int, hh = b + 1 + D := ⟨_, rfl⟩
 have u7 : IntKind.i64.wrap (b + 1 + D) = hh := by rw [w64 (by omega) (by omega)]; omega
 rw [← hhd] at hall
 have f1 : ∀ k : Int, fillC [.int .i64 0, .int .i64 0, .int .i64 0, .int .i64 0, .nils] [(0, 1, .int .i64 k)] = some [.int .i64 k, .int .i64 0, .int .i64 0, .int .i64 0, .nils] := fun _ => rfl
 have f2 : ∀ k m : Int, fillC [.int .i64 0, .int .i64 0, .int .i64 0, .int .i64 0, .nils] [(0, 1, .int .i64 k), (1, 1, .int .i64 m)] = some [.int .i64 k, .int .i64 m, .int .i64 0, .int .i64 0, .nils] := fun _ _ => rfl
 have f3 : ∀ m : Int, fillC [.int .i64 0, .int .i64 0, .int .i64 0, .int .i64 0, .nils, .int .i64 0, .int .i64 0, .int .i64 0, .int .i64 0, .nils, .int .i64 0, .int .i64 0, .int .i64 0, .int .i64 0, .nils]
   [(0, 5, .agg [.int .i64 2, .int .i64 0, .int .i64 0, .int .i64 0, .nils]), (5, 5, .agg [.int .i64 1, .int .i64 m, .int .i64 0, .int .i64 0, .nils]), (10, 5, .agg [.int .i64 3, .int .i64 0, .int .i64 0, .int .i64 0, .nils])] = some (lkCells m) := fun _ => rfl
 have f4 : ∀ (c : List UInt8) (d g : Int) (b : Nat), fillC [.str [], .int .i64 0, .int .i64 0, .int .i64 0, .nils] [(0, 1, .str c), (1, 1, .int .i64 500), (2, 1, .int .i64 d), (3, 1, .int .i64 g), (4, 1, .sl b 0 3 3)] = some (tkCells c d g (.sl b 0 3 3)) := fun _ _ _ _ => rfl
 have tl : ∀ (c : List UInt8) (d g : Int) (v : CV), (tkCells c d g v).length = 5 := fun _ _ _ _ => rfl
 have ts : ∀ (c : List UInt8) (d g : Int) (b n : Nat), (tkCells c d g (.sl b 0 n n)).all CV.scalar = true := fun _ _ _ _ _ => rfl
 have s1 : ∀ (k : Int) (h : Heap), storeAt (h ++ [.arr (lkCells k) .tight, .arr [.str [], .int .i64 0, .int .i64 0, .int .i64 0, .nils] .tight]) (h.length + 1) 0 (tkCells [108] 200 b (.sl h.length 0 3 3)) = some (h ++ [.arr (lkCells k) .tight, .arr (tkCells [108] 200 b (.sl h.length 0 3 3)) .tight]) := fun k h => store_new2 rfl rfl
 have s2 : ∀ (k : Int) (h : Heap), storeAt (h ++ [.arr (lkCells k) .tight, .arr [.str [], .int .i64 0, .int .i64 0, .int .i64 0, .nils] .tight]) (h.length + 1) 0 (tkCells [104] 100 9 (.sl h.length 0 3 3)) = some (h ++ [.arr (lkCells k) .tight, .arr (tkCells [104] 100 9 (.sl h.length 0 3 3)) .tight]) := fun k h => store_new2 rfl rfl
 have f5 : ∀ (g d : Int) (a c : Nat), fillC [.str [], .int .i64 0, .int .i64 0, .int .i64 0, .nils, .str [], .int .i64 0, .int .i64 0, .int .i64 0, .nils] [(0, 5, .agg (tkCells [108] 200 g (.sl a 0 3 3))), (5, 5, .agg (tkCells [104] 100 d (.sl c 0 3 3)))] = some (tkCells [108] 200 g (.sl a 0 3 3) ++ tkCells [104] 100 d (.sl c 0 3 3)) := fun _ _ _ _ => rfl
 have f6 : ∀ q : Nat, fillC [.int .i64 0, .nils, .nils] [(0, 1, .int .i64 1), (2, 1, .sl q 0 2 2)] = some [.int .i64 1, .nils, .sl q 0 2 2] := fun _ => rfl
 have s2' := store_new2 (h := h ++ [.arr (lkCells hh) .tight, .arr (tkCells [108] 200 b (.sl h.length 0 3 3)) .tight]) (o := .arr (lkCells 1) .tight) (row := tkCells [104] 100 9 (.sl (h.length + 2) 0 3 3)) (z := [.str [], .int .i64 0, .int .i64 0, .int .i64 0, .nils]) rfl rfl
 simp at s2'
 obtain ⟨w1, w2⟩ := ab_load (h := h) (o1 := lkCells hh) (o3 := lkCells 1) (r1 := tkCells [108] 200 b (.sl h.length 0 3 3)) (r2 := tkCells [104] 100 9 (.sl (h.length + 2) 0 3 3)) rfl rfl
 simp [hqB, hnD, u1, u2, u3, u4, u5, u6, u7, f1, f2, f3, f4, tl, s1, s2', w1, w2, f5, f6]
 have kA := Keep.app NoneOf h [.arr (lkCells hh) .tight, .arr (tkCells [108] 200 b (.sl h.length 0 3 3)) .tight, .arr (lkCells 1) .tight, .arr (tkCells [104] 100 9 (.sl (h.length + 2) 0 3 3)) .tight, .arr (tkCells [108] 200 b (.sl h.length 0 3 3) ++ tkCells [104] 100 9 (.sl (h.length + 2) 0 3 3)) .tight]
 have st := ab_tasks (h := h) (b := b) (hh := hh)
 generalize h ++ [Obj.arr (lkCells hh) .tight, .arr (tkCells [108] 200 b (.sl h.length 0 3 3)) .tight, .arr (lkCells 1) .tight, .arr (tkCells [104] 100 9 (.sl (h.length + 2) 0 3 3)) .tight, .arr (tkCells [108] 200 b (.sl h.length 0 3 3) ++ tkCells [104] 100 9 (.sl (h.length + 2) 0 3 3)) .tight] = H1 at *
 obtain ⟨ok2, hT, hL⟩ := ab_ok (b := b) (h := hh) (by omega) (by omega)
 simp only [abOne, Bool.and_eq_true, decide_eq_true_eq] at hall
 obtain ⟨ok1, hrun⟩ := hall
 refine (newY lp (x := abSet b hh) (k := 1) st.lt rfl (by omega) rfl (fun y hy => hy.2) ok2 ok1 hL).mono ?_
 rintro r h2 ⟨k2, eb, K, cells, Q, rfl, c2, eg, eo, eq, hel, hown⟩
 have hnp : eqv .p (.ptr eb 0) .nilp = some false := rfl
 simp [hnp]
 have hkl := kA.len
 refine W_loop (AbI K eb (abSet b hh) b h) ?_ (b.toNat + 2) ⟨0, coreX0 (abSet b hh), 0, 0, by omega, by omega, hrun, ⟨kA.trans k2, ⟨Q, cells, c2⟩, eg, eo, fun y hy => by have := hown y hy; omega, fit0 (show (0 : Int) ≤ 1 by omega)⟩, by omega, by omega, by omega, by omega, rfl⟩
 rintro m e h4 ⟨t, s, a, d, ht, hm, hr, EH, a0, a1, d0, d1, rfl⟩
 obtain ⟨Q4, cells4, c4⟩ := EH.core
 have hlb := EH.fit.lb c4
 have hlb1 : K.lb.length = 1 := by have : (abSet b hh).locks = 1 := rfl; omega
 by_cases htt : (t : Int) ≤ b + 1
 case neg =>
  have hm0 : m = 0 := by omega
  subst hm0
  simp only [abRun, Bool.and_eq_true, decide_eq_true_eq] at hr
  obtain ⟨⟨rfl, rfl⟩, how⟩ := hr
  simp [u6, htt]
  refine (coreY lp EH.eg).mono ?_
  rintro r h5 ⟨rfl, rfl⟩
  try simp
  refine (lockAtX lp c4 (i := 0) (o := -1) (by omega) (by rw [how]; rfl)).mono ?_
  rintro r h6 ⟨lb, rfl, k6, g6⟩
  try simp
  refine (ownerX lp g6).mono ?_
  rintro r h7 ⟨rfl, rfl⟩
  simp
 have hm1 : ∃ m', m = m' + 1 := ⟨m - 1, by omega⟩
 obtain ⟨m', rfl⟩ := hm1
 simp only [abRun] at hr
 cases hL : loopX (abSet b hh) 8 (askLX (abSet b hh) (abAsks t) s).1 with
 | none => rw [hL] at hr; cases hr
 | some q =>
 obtain ⟨s', E⟩ := q
 rw [hL] at hr
 simp only [Bool.and_eq_true, decide_eq_true_eq] at hr
 obtain ⟨⟨⟨⟨⟨e1, e2⟩, e3⟩, e4⟩, e5⟩, hr⟩ := hr
 cases hC : abCnt b ((askLX (abSet b hh) (abAsks t) s).2 ++ E) a d with
 | none => rw [hC] at hr; cases hr
 | some q =>
 obtain ⟨a', d'⟩ := q
 rw [hC] at hr
 simp only [Bool.and_eq_true, decide_eq_true_eq] at hr
 obtain ⟨⟨⟨⟨a0', a1'⟩, d0'⟩, d1'⟩, hr⟩ := hr
 have f00 : fillC [] [] = some [] := rfl
 have f01 : ∀ k : Int, fillC [.int .i64 0] [(0, 1, .int .i64 k)] = some [.int .i64 k] := fun _ => rfl
 simp [u6, htt, f00]
 refine W_to (AbM eb b a d t (if t = 0 then [0] else []) h4) ?_ ?_
 ·by_cases h0 : t = 0
  ·simp [h0, f01]
   exact ⟨_, _, rfl, Keep.app _ _ _, slAt (cells := [.int .i64 0]) (by simp) (Rows.one (e := .int .i64) rfl) rfl (by simp [From])⟩
  ·simp [h0]
   exact ⟨_, _, rfl, Keep.app _ _ _, slAt (cells := []) (by simp) Rows.nil rfl (by simp [From])⟩
 rintro e h5 ⟨av, r, rfl, k5, sv5⟩
 simp
 refine W_to (AbM eb b a d t (abAsks t) h4) ?_ ?_
 ·by_cases h1 : (t : Int) = 1
  ·have h1' : t = 1 := by omega
   have kk := Keep.app NoneOf h5 [.arr [.int .i64 1] .tight]
   simp [h1, h1', f01]
   exact ⟨_, _, rfl, k5.trans kk, slAt (cells := [.int .i64 1]) (by simp) (Rows.one (e := .int .i64) rfl) rfl (by have := k5.len; simp [From]; omega)⟩
  ·have h1' : ¬ t = 1 := by omega
   simp [h1, h1']
   refine ⟨_, _, rfl, k5, ?_⟩
   have : abAsks t = if t = 0 then [0] else [] := by unfold abAsks; rw [if_neg h1']
   rw [this]; exact sv5
 rintro e h6 ⟨av, r, rfl, k6, sv6⟩
 simp
 have hal : (abAsks t).length ≤ 1 := by
  unfold abAsks
  split
  ·simp
  ·split <;> simp
 have eg6 := k6.at EH.eg id
 have hown4 := c4.own_lt
 have fitA := askLX_fit (a := abAsks t) EH.fit hT
 obtain ⟨fitS, nowS⟩ := loopX_fit fitA hL
 rw [askLX_now] at nowS
 refine (tickW la (c4.on k6) eg6 EH.eo EH.fit hT (by simp [abSet]) (show (1 : Int) ≤ 1000 by omega) sv6 (fun y hy o => by have := hown4 y o; simp only [From] at hy; omega) (by omega) (by omega) (by omega) hL (by omega)).mono ?_
 rintro r h7 ⟨v, rfl, ⟨k7, Q7, cells7, c7, q7⟩, ev7⟩
 have K7 : Keep NoneOf h h7 := (EH.k.trans k6).then k7 fun y hy o => by have := EH.own y o; omega
 have n7 := ev7.len (by decide)
 have eg7 := k7.at eg6 EH.eo
 have hnk : eqv .p (.ptr K.b 0) .nilp = some false := rfl
 simp
 refine (coreY lp eg7).mono ?_
 rintro r h8 ⟨rfl, rfl⟩
 simp [hnk]
 refine (coreY lp eg7).mono ?_
 rintro r h9 ⟨rfl, rfl⟩
 try simp
 obtain ⟨o, ho⟩ : ∃ o, s'.own[0]? = some o := ⟨_, List.getElem?_eq_getElem (by omega)⟩
 refine (lockAtX lp c7 (i := 0) (o := o) (by omega) ho).mono ?_
 rintro r hA ⟨lb, rfl, kA1, _⟩
 have hnl : eqv .p (.ptr lb 0) .nilp = some false := rfl
 simp [hnl]
 have K10 := K7.trans kA1
 have c10 := c7.on kA1
 have eg10 := kA1.at eg7 id
 have ev10 := ev7.on kA1
 have n10 := ev10.len (by decide)
 generalize hEv : (askLX (abSet b hh) (abAsks t) s).2 ++ E = EV at *
 have hEl : EV.length ≤ 1001 := by
  rw [← hEv, List.length_append, askLX_len]
  omega
 refine W_loop (AbC eb b EV a' d' t v hA) ?_ EV.length ⟨0, a, d, by omega, by omega, hC, by omega, by omega, by omega, by omega, rfl, rfl⟩
 rintro m e hB ⟨i, a2, d2, hi, rfl, hC2, p0, p1, p2, p3, rfl, rfl⟩
 by_cases hie : i = EV.length
 ·subst hie
  simp only [List.drop_length, abCnt, Option.some.injEq, Prod.mk.injEq] at hC2
  obtain ⟨rfl, rfl⟩ := hC2
  have hw1 : IntKind.i64.wrap ((t : Int) + 1) = ((t + 1 : Nat) : Int) := by rw [w64 (by omega) (by omega)]; omega
  simp [n10, hw1]
  exact ⟨m', by omega, t + 1, { s' with now := s.now + 1 }, a2, d2, by omega, by omega, hr, ⟨K10, ⟨Q7, cells7, c10⟩, eg10, EH.eo, EH.own, fitS.time _⟩, by omega, by omega, by omega, by omega, rfl⟩
 ·have hlt : i < EV.length := by omega
  have hlt' : (i : Int) < EV.length := by omega
  have hw2 : IntKind.i64.wrap ((i : Int) + 1) = ((i + 1 : Nat) : Int) := by rw [w64 (by omega) (by omega)]; omega
  obtain ⟨b0, o0, row, x1, x2, x3, x4⟩ := ev10.row (k := .i64) (by decide) hlt
  have x1 : idxAddrV 7 v (.int .i64 (i : Int)) = some (.ptr b0 o0) := x1
  obtain ⟨x4, _, _⟩ := x4
  rw [List.drop_eq_getElem_cons hlt] at hC2
  simp only [abCnt] at hC2
  cases hev : evF EV[i] with
  | none => rw [hev] at hC2; cases hC2
  | some q3 =>
  obtain ⟨T, kd, tk⟩ := q3
  rw [hev] at hC2
  simp only at hC2
  obtain ⟨z1, z2, z3, z4, hz⟩ := evF_some hev
  rw [hz] at x4
  subst x4
  have y0 : loadAt hB b0 o0 none = some (.int .i64 T) := by have := x3 0 (by decide); rw [Nat.add_zero] at this; exact this
  have y1 : loadAt hB b0 (o0 + 1) none = some (.int .i64 kd) := x3 1 (by decide)
  have y2 : loadAt hB b0 (o0 + 2) none = some (.int .i64 tk) := x3 2 (by decide)
  by_cases q7 : kd = 7
  ·rw [if_pos q7] at hC2
   split at hC2
   case isFalse => cases hC2
   rename_i hg
   obtain ⟨rfl, rfl⟩ := hg
   have hwa : IntKind.i64.wrap (a2 + 1) = a2 + 1 := w64 (by omega) (by omega)
   simp [n10, hlt, hlt', x1, y0, y1, y2, q7, hw2, hwa]
   exact ⟨EV.length - (i + 1), by omega, i + 1, a2 + 1, d2, by omega, rfl, hC2, by omega, by omega, by omega, by omega, rfl, rfl⟩
  ·rw [if_neg q7] at hC2
   by_cases q6 : kd = 6
   ·rw [if_pos q6] at hC2
    split at hC2
    case isFalse => cases hC2
    rename_i hg
    obtain ⟨rfl, rfl⟩ := hg
    have hwd : IntKind.i64.wrap (d2 + 1) = d2 + 1 := w64 (by omega) (by omega)
    have hmx : IntKind.i64.wrap (max b 1 + 1) = max b 1 + 1 := w64 (by omega) (by omega)
    have mx2 : mxL [.int .i64 b, .int .i64 1] = some (.int .i64 (max b 1)) := mxL_two
    simp [n10, hlt, hlt', x1, y0, y1, y2, q6, hw2, hwd, hmx, mx2]
    exact ⟨EV.length - (i + 1), by omega, i + 1, a2, d2 + 1, by omega, rfl, hC2, by omega, by omega, by omega, by omega, rfl, rfl⟩
   ·rw [if_neg q6] at hC2
    simp [n10, hlt, hlt', x1, y0, y1, y2, q7, q6, hw2]
    exact ⟨EV.length - (i + 1), by omega, i + 1, a2, d2, by omega, rfl, hC2, by omega, by omega, by omega, by omega, rfl, rfl⟩
end Go.Cl
