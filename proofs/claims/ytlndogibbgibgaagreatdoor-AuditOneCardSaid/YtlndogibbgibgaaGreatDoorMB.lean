/-
  Texts laid together: AProg AProgT AProgE AProgC AProgR AProgM.
-/
import Derived.Test.YtlndogibbgibgaaGreatDoorM8
import Derived.Test.YtlndogibbgibgaaGreatDoorM5
import Derived.Test.YtlndogibbgibgaaGreatDoorM7
namespace Go.Cl
open Go
set_option linter.unusedSimpArgs false
set_option linter.unusedVariables false
set_option maxHeartbeats 2000000
variable {p : PP}
theorem cloneInts_spec (lp : LP p) {h : Heap} {v : CV} {l : List Int} {P : Nat → Prop} (s : Sl (.int .i64) h P v l) (hl : l.length ≤ big) :
  WF p 55 [v] h fun r h' => Keep NoneOf h h' ∧ Sl (.int .i64) h' (From h) r l := by
 refine WF_of (by rw [lp.pg]; exact S.pg55) (lp.no ⟨rfl, rfl⟩) ?_
 show W p S.b55 _ _ (retQ [.t 2] _)
 unfold S.b55
 obtain ⟨cells, rd, ⟨ok, _⟩, rs⟩ := s
 have hc := rs.1
 rcases rd with ⟨rfl, h0⟩ | ⟨b, o, n, c, cs, st, rfl, h1, h2, h3, h4⟩
 ·have : l = [] := List.eq_nil_of_length_eq_zero (by rw [h0] at hc; simpa [Cod.int] using hc.symm)
  subst this
  simp
  exact ⟨Keep.refl _ _, Sl.nil⟩
 ·have kap : Keep NoneOf h (h ++ [.arr [] .tight]) := Keep.app _ _ _
  have rd' : Read (h ++ [.arr [] .tight]) 1 (.sl b o n c) cells := .inr ⟨b, o, n, c, cs, st, rfl, h1, kap.at h2 id, h3, h4⟩
  have e : spread (h ++ [.arr [] .tight]) 1 (.sl b o n c) = some (cells.length / 1, cells) := rd'.spread (by decide)
  have hcl : cells.length = l.length := by simpa [Cod.int] using hc
  rw [hcl, Nat.div_one] at e
  have ow0 : OwnL (.int .i64) (h ++ [.arr [] .tight]) NoneOf (.sl h.length 0 0 0) [] := ⟨[], .inr ⟨h.length, 0, .tight, rfl, rfl, .inl rfl, by simp⟩, Rows.nil, fun b _ hn => hn⟩
  have hnil : fillC [] [] = some [] := rfl
  simp [hnil, e]
  refine OV_pushes (e := .int .i64) (m := l) ow0 (rows_ints.2 (rows_ints.1 rs)) rfl (fun _ hb => hb.elim) (by simp) hl (by decide) ?_
  intro lv' h2 o2 k2 hb2
  simp
  refine ⟨kap.then k2 fun b hb e => by simp [CV.blk] at e; omega, (OwnL.sl (by simpa using o2)).mono fun b hb => ?_⟩
  rcases hb with hb | hb
  ·exact hb.elim
  ·simp only [From]
   rcases hb2 b hb with hq | hq
   ·simp [CV.blk] at hq; omega
   ·simp at hq; omega
structure OrH (h : Heap) (R : Nat) (hv fv : CV) (s : Ord) (h' : Heap) : Prop where
 k : Keep NoneOf h h'
 o : h'[R]? = some (.arr [hv, fv] .tight)
 rh : Roomy h' 1 hv (ints .i64 s.1.reverse)
 rf : ∃ cells, Roomy h' 1 fv cells ∧ Rows (Cod.sl (.int .i64)) h' (fun b => b ≠ R ∧ hv.blk ≠ some b ∧ fv.blk ≠ some b) cells (s.2.reverse.map List.reverse)
 b0 : h.length ≤ R
 bh : ∀ b, hv.blk = some b → h.length ≤ b ∧ b ≠ R
 bf : ∀ b, fv.blk = some b → h.length ≤ b ∧ b ≠ R
 ap : ∀ b, hv.blk = some b → fv.blk ≠ some b
theorem Roomy.scalar {h : Heap} {esz : Nat} {v : CV} {l : List CV} (g : Roomy h esz v l) : v.scalar = true := g.read.scalar
theorem Roomy.blk_lt {h : Heap} {esz : Nat} {v : CV} {l : List CV} (g : Roomy h esz v l) {b : Nat} (hb : v.blk = some b) : b < h.length := g.read.blk_lt b hb
theorem OrH.on {h h1 h2 : Heap} {R : Nat} {hv fv : CV} {s : Ord} (q : OrH h R hv fv s h1) (k : Keep NoneOf h1 h2) : OrH h R hv fv s h2 := by
 obtain ⟨cells, rf, rs⟩ := q.rf
 exact ⟨q.k.trans k, k.at q.o id, q.rh.keep k fun _ _ => id, ⟨cells, rf.keep k fun _ _ => id, rs.keep k fun _ _ => id⟩, q.b0, q.bh, q.bf, q.ap⟩
theorem OrH.setH {h h1 h2 : Heap} {R : Nat} {hv hv' fv : CV} {s : Ord} {l : List Int} (q : OrH h R hv fv s h1) (k : Keep (fun b => hv.blk = some b) h1 h2) (r : Roomy h2 1 hv' (ints .i64 l.reverse)) (hb : ∀ b, hv'.blk = some b → hv.blk = some b ∨ h1.length ≤ b) :
  storeAt h2 R 0 [hv'] = some (h2.set R (.arr [hv', fv] .tight)) ∧ OrH h R hv' fv (l, s.2) (h2.set R (.arr [hv', fv] .tight)) := by
 obtain ⟨cells, rf, rs⟩ := q.rf
 have hR := lt_of_get q.o
 have g2 := k.at q.o (fun e => (q.bh R e).2 rfl)
 have s2 := sto1 g2 (o := 0) (v := hv') (by simp) r.scalar
 have hset : ([hv, fv] : List CV).set 0 hv' = [hv', fv] := rfl
 rw [hset] at s2
 have ke : Keep (fun b => b = R) h2 (h2.set R (.arr [hv', fv] .tight)) := Keep.set _ _ rfl
 have hnb : ∀ b, hv'.blk = some b → h.length ≤ b ∧ b ≠ R := fun b e => by
  rcases hb b e with hq | hq
  ·exact q.bh b hq
  ·have := q.k.len; exact ⟨by omega, by omega⟩
 have hap : ∀ b, hv'.blk = some b → fv.blk ≠ some b := fun b e ef => by
  rcases hb b e with hq | hq
  ·exact q.ap b hq ef
  ·have := rf.blk_lt ef; omega
 have rf2 := rf.keep k fun b e hh => q.ap b hh e
 refine ⟨s2, (q.k.then k fun b hb e => by have := q.bh b e; omega).then ke fun b hb e => by have := q.b0; omega, get_set_self (lt_of_get g2), r.keep ke fun b e hh => (hnb b e).2 hh, ⟨cells, rf2.keep ke fun b e hh => (q.bf b e).2 hh, ?_⟩, q.b0, hnb, q.bf, hap⟩
 have rs2 := (rs.lt.keep k fun b hb hh => hb.1.2.1 hh).keep ke fun b hb hh => hb.1.1 hh
 refine rs2.mono fun b hbb => ⟨hbb.1.1, fun e => ?_, hbb.1.2.2⟩
 rcases hb b e with hq | hq
 ·exact hbb.1.2.1 hq
 ·omega
theorem OrH.setF {h h1 h2 : Heap} {R : Nat} {hv fv fv' : CV} {s : Ord} {l : List (List Int)} {cells' : List CV} (q : OrH h R hv fv s h1) (k : Keep (fun b => fv.blk = some b) h1 h2) (r : Roomy h2 1 fv' cells') (hb : ∀ b, fv'.blk = some b → fv.blk = some b ∨ h1.length ≤ b)
  (rs : Rows (Cod.sl (.int .i64)) h2 (fun b => b ≠ R ∧ hv.blk ≠ some b ∧ fv'.blk ≠ some b) cells' (l.reverse.map List.reverse)) :
  storeAt h2 R 1 [fv'] = some (h2.set R (.arr [hv, fv'] .tight)) ∧ OrH h R hv fv' (s.1, l) (h2.set R (.arr [hv, fv'] .tight)) := by
 obtain ⟨cells, rf, _⟩ := q.rf
 have hR := lt_of_get q.o
 have g2 := k.at q.o (fun e => (q.bf R e).2 rfl)
 have s2 := sto1 g2 (o := 1) (v := fv') (by simp) r.scalar
 have hset : ([hv, fv] : List CV).set 1 fv' = [hv, fv'] := rfl
 rw [hset] at s2
 have ke : Keep (fun b => b = R) h2 (h2.set R (.arr [hv, fv'] .tight)) := Keep.set _ _ rfl
 have hnb : ∀ b, fv'.blk = some b → h.length ≤ b ∧ b ≠ R := fun b e => by
  rcases hb b e with hq | hq
  ·exact q.bf b hq
  ·have := q.k.len; exact ⟨by omega, by omega⟩
 have hap : ∀ b, hv.blk = some b → fv'.blk ≠ some b := fun b e ef => by
  rcases hb b ef with hq | hq
  ·exact q.ap b e hq
  ·have := q.rh.blk_lt e; omega
 have rh2 := q.rh.keep k fun b e hh => q.ap b e hh
 exact ⟨s2, (q.k.then k fun b hb e => by have := q.bf b e; omega).then ke fun b hb e => by have := q.b0; omega, get_set_self (lt_of_get g2), rh2.keep ke fun b e hh => (q.bh b e).2 hh, ⟨cells', r.keep ke fun b e hh => (hnb b e).2 hh, rs.keep ke fun b hb hh => hb.1 hh⟩, q.b0, q.bh, hnb, hap⟩
def TakeQ (h : Heap) (R : Nat) (s : Ord) (o : OpV) (r : CV) (h2 : Heap) : Prop :=
 match takeP s o with
 | some s' => r = .bool true ∧ ∃ hv fv, OrH h R hv fv s' h2
 | none => r = .bool false ∧ Keep NoneOf h h2
theorem TakeQ.no {h : Heap} {R : Nat} {s : Ord} {o : OpV} {h2 : Heap} (e : takeP s o = none) (k : Keep NoneOf h h2) : TakeQ h R s o (.bool false) h2 := by
 unfold TakeQ; rw [e]; exact ⟨rfl, k⟩
theorem TakeQ.yes {h : Heap} {R : Nat} {s s' : Ord} {o : OpV} {h2 : Heap} {hv fv : CV} (e : takeP s o = some s') (q : OrH h R hv fv s' h2) : TakeQ h R s o (.bool true) h2 := by
 unfold TakeQ; rw [e]; exact ⟨rfl, hv, fv, q⟩
theorem Roomy.ok {h : Heap} {esz : Nat} {v : CV} {l : List CV} (g : Roomy h esz v l) : v.ok := by
 rcases g with ⟨rfl, _⟩ | ⟨b, o, n, c, cs, st, rfl, h1, h2, _⟩
 ·trivial
 ·exact h2
theorem row1 {h : Heap} {v : CV} {l : List (List Int)} {P : Nat → Prop} (s : Sl (Cod.sl (.int .i64)) h P v l) {i : Nat} (hi : i < l.length) :
  ∃ b o c, idxAddrV 1 v (.int .i64 (i : Int)) = some (.ptr b o) ∧ loadAt h b o none = some c ∧ Sl (.int .i64) h P c l[i] := by
 obtain ⟨b0, o0, row, x1, x2, x3, v1, rfl, s1⟩ := s.row (k := .i64) (by decide) hi
 have x4 := x3 0 (by decide)
 simp at x4
 exact ⟨b0, o0, v1, x1, x4, s1⟩
theorem take_spec (lp : LP p) {h h1 : Heap} {R : Nat} {hv fv : CV} {s : Ord} {c : List CV} {o : OpV} {P : Nat → Prop} (q : OrH h R hv fv s h1) (ro : opC.rep h1 P c o) (hs1 : s.1.length ≤ 1000) (hs2 : s.2.length ≤ 1000) (hs3 : ∀ f ∈ s.2, f.length ≤ 1000) :
  WF p 294 [.ptr R 0, .agg c] h1 (TakeQ h R s o) := by
 refine WF_of (by rw [lp.pg]; exact S.pg294) (lp.no ⟨rfl, rfl⟩) ?_
 show W p S.b294 _ _ (retQ [.t 4] _)
 unfold S.b294
 have ro1 := opC.on ro (Keep.app NoneOf h1 [.arr c .tight])
 obtain ⟨cv, hC, sc⟩ := ro
 have c0 : c[0]? = some (.int .i64 o.kind) := by subst hC; rfl
 have c1 : c[1]? = some (.int .i64 o.n) := by subst hC; rfl
 have cl : c.length = 5 := by subst hC; rfl
 have q1 := q.on (Keep.app NoneOf h1 [.arr c .tight])
 have gX : (h1 ++ [.arr c .tight])[h1.length]? = some (.arr c .tight) := get_new
 have lX := ld gX
 have lW := ldw gX cl
 have lR := ld q1.o
 obtain ⟨cells, rf, rs⟩ := q1.rf
 have nf := rf.read.len (by decide)
 have hcl : cells.length = s.2.length := by have := rs.1; simpa [Cod.sl] using this
 rw [Nat.div_one, hcl] at nf
 have nh := q1.rh.read.len (by decide)
 rw [Nat.div_one, ints_length, List.length_reverse] at nh
 have w1 : IntKind.i64.wrap ((s.2.length : Int) - 1) = (s.2.length : Int) - 1 := wrap_in _ (by omega) (by omega)
 have w2 : IntKind.i64.wrap ((s.1.length : Int) - 1) = (s.1.length : Int) - 1 := wrap_in _ (by omega) (by omega)
 have hbl : ∀ b, hv.blk = some b → b < (h1 ++ [Obj.arr c .tight]).length := fun b e => q1.rh.blk_lt e
 have fbl : ∀ b, fv.blk = some b → b < (h1 ++ [Obj.arr c .tight]).length := fun b e => rf.blk_lt e
 have hRl := lt_of_get q1.o
 clear hC sc
 generalize hH : h1 ++ [Obj.arr c .tight] = H at *
 by_cases k8 : o.kind = 8
 ·simp [hH, lX, lR, nf, c0, k8, w1]
  refine WO_re_n ?_
  simp
  refine (cloneInts_spec lp (Sl.of_ints q1.rh.read q1.rh.ok) (by simp [big]; omega)).mono ?_
  rintro r h2 ⟨k2, s2⟩
  have q2 := q1.on k2
  have lR2 := ld q2.o
  refine ⟨fun c' => by simp [recheckB, wanted, Env.get, cls, evOp, Opd.ev, withH, CV.eqb, CV.eqb_refl, lR2], ?_⟩
  have hsc := s2.scalar
  simp [fillC, splice, spread, cellsAt, hsc, CV.cells_scalar hsc]
  have q3 := q2.on (Keep.app NoneOf h2 [.arr [r] .tight])
  have s3 := s2.lt.on (Keep.app NoneOf h2 [.arr [r] .tight])
  obtain ⟨cells3, rf3, rs3⟩ := q3.rf
  have hcl3 : cells3.length = s.2.length := by have := rs3.1; simpa [Cod.sl] using this
  have hl3 : h2.length < (h2 ++ [Obj.arr [r] .tight]).length := by simp
  have k2l := k2.len
  generalize h2 ++ [Obj.arr [r] .tight] = h3 at *
  refine OV_room rf3 (n := s.2.length) (by omega) rfl (by simp [hsc]) (by simp [big]; omega) (by simp [big]) (by decide) ?_
  intro v' h4 r4 k4 hb4
  have rs4 : Rows (Cod.sl (.int .i64)) h4 (fun b => b ≠ R ∧ hv.blk ≠ some b ∧ v'.blk ≠ some b) (cells3 ++ [r]) ((s.1 :: s.2).reverse.map List.reverse) := by
   rw [List.reverse_cons, List.map_append, List.map_cons, List.map_nil]
   refine Rows.append ?_ (Rows.one ⟨r, rfl, ?_⟩)
   ·refine (rs3.lt.keep k4 fun b hb hh => hb.1.2.2 hh).mono fun b hb => ⟨hb.1.1, hb.1.2.1, fun e => ?_⟩
    rcases hb4 b e with g | g
    ·exact hb.1.2.2 g
    ·omega
   ·refine (s3.keep k4 fun b hb hh => ?_).mono fun b hb => ?_
    ·have := fbl _ hh; have := hb.1; simp only [From] at this; omega
    ·have hbf := hb.1
     simp only [From] at hbf
     refine ⟨by omega, fun e => ?_, fun e => ?_⟩
     ·have := hbl _ e; omega
     ·rcases hb4 b e with g | g
      ·have := fbl _ g; omega
      ·have := hb.2; omega
  obtain ⟨st, q4⟩ := q3.setF k4 r4 hb4 rs4
  have lR4 := ld q4.o
  obtain ⟨cells5, rf5, rs5⟩ := q4.rf
  have n5 := rf5.read.len (by decide)
  have hcl5 : cells5.length = s.2.length + 1 := by have := rs5.1; simpa [Cod.sl] using this
  rw [Nat.div_one, hcl5] at n5
  simp [fits_scalar r4.scalar, CV.cells_scalar r4.scalar, st, lR4, n5]
  by_cases h3' : s.2.length < 3
  ·have : (s.2.length : Int) + 1 ≤ 3 := by omega
   simp [this]
   exact TakeQ.yes (by unfold takeP; rw [if_pos k8, if_pos h3']) q4
  ·have : ¬ (s.2.length : Int) + 1 ≤ 3 := by omega
   simp [this]
   exact TakeQ.no (by unfold takeP; rw [if_pos k8, if_neg h3']) q4.k
 by_cases k9 : o.kind = 9
 ·by_cases h0 : s.2 = []
  ·have hn : (s.2.length : Int) - 1 < 0 := by rw [h0]; simp
   simp [hH, lX, lR, nf, c0, k8, k9, w1, hn]
   exact TakeQ.no (by unfold takeP; rw [if_neg k8, if_pos k9, h0]) q1.k
  ·obtain ⟨f, rr, hs⟩ := List.exists_cons_of_ne_nil h0
   have hn : ¬ (s.2.length : Int) - 1 < 0 := by rw [hs]; simp
   have hlast : (s.2.length : Int) - 1 = (rr.length : Int) := by rw [hs]; simp
   have sF : Sl (Cod.sl (.int .i64)) H (fun b => b ≠ R ∧ hv.blk ≠ some b ∨ fv.blk = some b) fv (s.2.reverse.map List.reverse) := ⟨cells, rf.read, ⟨rf.ok, fun b hb => .inr hb⟩, rs.mono fun b hb => .inl ⟨hb.1, hb.2.1⟩⟩
   have hlt : rr.length < (s.2.reverse.map List.reverse).length := by rw [hs]; simp
   obtain ⟨b0, o0, c0', x1, x2, s3⟩ := row1 sF hlt
   have hel : (s.2.reverse.map List.reverse)[rr.length] = f.reverse := by simp [hs]
   rw [hel] at s3
   have sH : Sl (.int .i64) H (fun b => hv.blk = some b) hv s.1.reverse := Sl.of_ints q1.rh.read q1.rh.ok
   obtain ⟨v', cut, rc, bc⟩ := rf.cut (by decide) (k := .i64) (m := rr.length) (by rw [hcl, hs]; simp)
   rw [← hlast] at x1 cut
   simp [hH, lX, lR, nf, c0, k8, k9, w1, hn, x1, x2]
   refine (intsEq_spec (by rw [lp.pg]; exact S.pg61) (lp.no ⟨rfl, rfl⟩) s3 sH ?_).mono ?_
   ·rw [List.length_reverse]
    have := hs3 f (by rw [hs]; simp)
    simp [big]; omega
   rintro r h2 ⟨rfl, rfl⟩
   by_cases hf : f = s.1
   ·have rs' : Rows (Cod.sl (.int .i64)) h2 (fun b => b ≠ R ∧ hv.blk ≠ some b ∧ v'.blk ≠ some b) (cells.take (rr.length * 1)) (rr.reverse.map List.reverse) := by
     have := rs.take (m := rr.length) (by rw [hs]; simp)
     rw [bc]
     have e : (s.2.reverse.map List.reverse).take rr.length = rr.reverse.map List.reverse := by
      rw [hs, List.reverse_cons, List.map_append]
      exact List.take_left' (by simp)
     rwa [e] at this
    obtain ⟨st, q4⟩ := q1.setF (l := rr) (fv' := v') (Keep.refl _ _) rc (fun b hb => .inl (by rw [← bc]; exact hb)) rs'
    simp [hf, lR, cut, fits_scalar rc.scalar, CV.cells_scalar rc.scalar, st]
    exact TakeQ.yes (by unfold takeP; rw [if_neg k8, if_pos k9, hs]; simp [hf]) q4
   ·simp [hf]
    exact TakeQ.no (by unfold takeP; rw [if_neg k8, if_pos k9, hs]; simp [hf]) q1.k
 by_cases k2 : o.kind = 2
 ·have hpush : ∀ (K : CV × Heap → Prop), (∀ v' h4 st, storeAt h4 R 0 [v'] = some st → v'.scalar = true → OrH h R v' fv (o.n :: s.1, s.2) st → K (v', h4)) → OV (appendTo (H ++ [.arr [.int .i64 o.n] .tight]) 1 hv 1 [.int .i64 o.n]) K := by
   intro K kk
   have q3 := q1.on (Keep.app NoneOf H [.arr [.int .i64 o.n] .tight])
   refine OV_room q3.rh (n := s.1.length) (by simp) rfl (by simp) (by simp [big]; omega) (by simp [big]) (by decide) ?_
   intro v' h4 r4 k4 hb4
   obtain ⟨st, q4⟩ := q3.setH (l := o.n :: s.1) k4 (by rw [List.reverse_cons]; simpa [ints] using r4) hb4
   exact kk v' h4 _ st r4.scalar q4
  by_cases h0 : s.1 = []
  ·have hn : ¬ (0 : Int) < s.1.length := by rw [h0]; simp
   have hn' : ¬ 0 < s.1.length := by rw [h0]; simp
   simp [hH, lX, lR, nf, nh, c0, c1, k8, k9, k2, w1, w2, hn, hn', fillC, splice, spread, cellsAt]
   refine hpush _ fun v' h4 st hst hsc q4 => ?_
   simp [fits_scalar hsc, CV.cells_scalar hsc, hst]
   exact TakeQ.yes (by unfold takeP; rw [if_neg k8, if_neg k9, if_pos k2, h0]) (by rwa [h0] at q4)
  ·obtain ⟨x, t, hs⟩ := List.exists_cons_of_ne_nil h0
   have hn : (0 : Int) < s.1.length := by rw [hs]; simp
   have hn' : 0 < s.1.length := by rw [hs]; simp
   have hlast : (s.1.length : Int) - 1 = (t.length : Int) := by rw [hs]; simp
   have hlt : t.length < s.1.reverse.length := by rw [hs]; simp
   obtain ⟨b0, o0, x1, x2, x3⟩ := readI_idx (k' := .i64) q1.rh.read hlt
   have hel : s.1.reverse[t.length] = x := by simp [hs]
   rw [hel] at x3
   rw [← hlast] at x1
   by_cases hx : o.n ≤ x
   ·simp [hH, lX, lR, nf, nh, c0, c1, k8, k9, k2, w1, w2, hn, hn', x1, x3, hx]
    exact TakeQ.no (by unfold takeP; rw [if_neg k8, if_neg k9, if_pos k2, hs]; simp [hx]) q1.k
   ·simp [hH, lX, lR, nf, nh, c0, c1, k8, k9, k2, w1, w2, hn, hn', x1, x3, hx, fillC, splice, spread, cellsAt]
    refine hpush _ fun v' h4 st hst hsc q4 => ?_
    simp [fits_scalar hsc, CV.cells_scalar hsc, hst]
    exact TakeQ.yes (s' := (o.n :: s.1, s.2)) (by unfold takeP; rw [if_neg k8, if_neg k9, if_pos k2, hs]; simp [hx]) q4
 by_cases k3 : o.kind = 3
 ·by_cases h0 : s.1 = []
  ·have hn : (s.1.length : Int) = 0 := by rw [h0]; simp
   have hn' : s.1.length = 0 := by rw [h0]; simp
   simp [hH, lX, lR, nf, nh, c0, c1, k8, k9, k2, k3, w1, w2, hn, hn', h0]
   exact TakeQ.no (by unfold takeP; rw [if_neg k8, if_neg k9, if_neg k2, if_pos k3, h0]) q1.k
  ·obtain ⟨x, t, hs⟩ := List.exists_cons_of_ne_nil h0
   have hn : ¬ (s.1.length : Int) = 0 := by rw [hs]; simp; omega
   have hn' : ¬ s.1.length = 0 := by rw [hs]; simp
   have hlast : (s.1.length : Int) - 1 = (t.length : Int) := by rw [hs]; simp
   have hlt : t.length < s.1.reverse.length := by rw [hs]; simp
   obtain ⟨b0, o0, x1, x2, x3⟩ := readI_idx (k' := .i64) q1.rh.read hlt
   have hel : s.1.reverse[t.length] = x := by simp [hs]
   rw [hel] at x3
   obtain ⟨v', cut, rc, bc⟩ := q1.rh.cut (by decide) (k := .i64) (m := t.length) (by simp [hs])
   rw [← hlast] at x1 cut
   by_cases hx : x = o.n
   ·simp [hH, lX, lR, nf, nh, c0, c1, k8, k9, k2, k3, w1, w2, hn, hn', h0, x1, x3, hx, cut, fits_scalar rc.scalar, CV.cells_scalar rc.scalar]
    obtain ⟨st, q4⟩ := q1.setH (l := t) (hv' := v') (Keep.refl _ _) (by
     have e : (ints .i64 s.1.reverse).take (t.length * 1) = ints .i64 t.reverse := by
      rw [hs, List.reverse_cons, ints, List.map_append, Nat.mul_one]
      exact List.take_left' (by simp)
     rwa [e] at rc) (fun b hb => .inl (by rw [← bc]; exact hb))
    simp [st]
    exact TakeQ.yes (by unfold takeP; rw [if_neg k8, if_neg k9, if_neg k2, if_pos k3, hs]; simp [hx]) q4
   ·simp [hH, lX, lR, nf, nh, c0, c1, k8, k9, k2, k3, w1, w2, hn, hn', h0, x1, x3, hx]
    exact TakeQ.no (by unfold takeP; rw [if_neg k8, if_neg k9, if_neg k2, if_pos k3, hs]; simp [hx]) q1.k
 simp [hH, lX, lR, lW, nf, nh, c0, c1, k8, k9, k2, k3, w1, w2]
 refine (opWaits_spec lp ro1).mono ?_
 rintro r h2 ⟨rfl, kk2⟩
 have q2 := q1.on kk2
 have lR2 := ld q2.o
 have nh2 := q2.rh.read.len (by decide)
 rw [Nat.div_one, ints_length, List.length_reverse] at nh2
 have hT : takeP s o = if waitsP o = true ∧ s.1 ≠ [] then none else some s := by
  unfold takeP
  rw [if_neg k8, if_neg k9, if_neg k2, if_neg k3]
 cases hw : waitsP o with
 | false =>
   simp
   exact TakeQ.yes (by rw [hT, hw]; simp) q2
 | true =>
   by_cases hl : s.1 = []
   ·simp [lR2, nh2, hl]
    exact TakeQ.yes (by rw [hT, hw]; simp [hl]) q2
   ·have : s.1.length ≠ 0 := by simpa using hl
    simp [lR2, nh2, hl]
    exact TakeQ.no (by rw [hT, hw]; simp [hl]) q2.k
def tOk : List Int → Prop
 | [] => True
 | u :: r => 1 ≤ u ∧ u ≤ 32 ^ r.length ∧ tOk r
theorem tOk_le {u : Int} {r : List Int} (h : tOk (u :: r)) (hr : r.length ≤ 3) : 1 ≤ u ∧ u ≤ 32768 := by
 refine ⟨h.1, Int.le_trans h.2.1 ?_⟩
 match r, hr with
 | [], _ => exact (by decide : (32 : Int) ^ 0 ≤ 32768)
 | [_], _ => exact (by decide : (32 : Int) ^ 1 ≤ 32768)
 | [_, _], _ => exact (by decide : (32 : Int) ^ 2 ≤ 32768)
 | [_, _, _], _ => exact (by decide : (32 : Int) ^ 3 ≤ 32768)
 | _ :: _ :: _ :: _ :: _, h => simp at h
def opFit (o : OpV) : Prop := (o.kind = 8 → 1 ≤ o.n ∧ o.n ≤ 32) ∧ (o.kind = 1 → 0 ≤ o.n ∧ o.n ≤ 1000)
def SeeOk (p : PP) (K : Nat) (G : OpV → Int → Int) : Prop := ∀ (h : Heap) (c : List CV) (o : OpV) (P : Nat → Prop) (t n : Int) (X : Nat), opC.rep h P c o → opFit o → 1 ≤ t → t ≤ 32768 → 0 ≤ n → n ≤ 100000000000 → h[X]? = some (.arr [.int .i64 n] .tight) →
 WF p K [.agg c, .int .i64 t, .ptr X 0] h fun _ h' => h'[X]? = some (.arr [.int .i64 (n + G o t)] .tight) ∧ Keep (fun b => b = X) h h'
theorem seeSteps (lp : LP p) : SeeOk p 301 (fun _ t => t) := by
 intro h c o P t n X ro hf t0 t1 n0 n1 hX
 refine WF_of (by rw [lp.pg]; exact S.pg301) (lp.no ⟨rfl, rfl⟩) ?_
 show W p S.b301 _ _ (retQ [] _)
 unfold S.b301
 have gX : (h ++ [.arr c .tight])[X]? = some (.arr [.int .i64 n] .tight) := get_app hX
 have lX := ld gX
 have sX := sto1 gX (o := 0) (v := .int .i64 (n + t)) (by simp) rfl
 have w : IntKind.i64.wrap (n + t) = n + t := wrap_in _ (by omega) (by omega)
 simp [lX, w, sX]
 exact ⟨by rw [List.getElem?_set_self (lt_of_get gX)], (Keep.app _ _ _).trans (Keep.set _ _ rfl)⟩
theorem gCost_fit {o : OpV} (hf : opFit o) {t : Int} (t0 : 1 ≤ t) (t1 : t ≤ 32768) : 0 ≤ gCost o t ∧ gCost o t ≤ 32768000 := by
 unfold gCost
 by_cases k : o.kind = 1
 ·rw [if_pos k]
  have := hf.2 k
  refine ⟨Int.mul_nonneg (by omega) (by omega), ?_⟩
  calc o.n * t ≤ 1000 * t := Int.mul_le_mul_of_nonneg_right (by omega) (by omega)
   _ ≤ 1000 * 32768 := Int.mul_le_mul_of_nonneg_left t1 (by omega)
   _ = 32768000 := by decide
 ·rw [if_neg k]; omega
theorem seeCost (lp : LP p) : SeeOk p 296 gCost := by
 intro h c o P t n X ro hf t0 t1 n0 n1 hX
 refine WF_of (by rw [lp.pg]; exact S.pg296) (lp.no ⟨rfl, rfl⟩) ?_
 show W p S.b296 _ _ (retQ [] _)
 unfold S.b296
 obtain ⟨cv, hC, sc⟩ := ro
 have c0 : c[0]? = some (.int .i64 o.kind) := by subst hC; rfl
 have c1 : c[1]? = some (.int .i64 o.n) := by subst hC; rfl
 clear hC
 have gX : (h ++ [.arr c .tight])[X]? = some (.arr [.int .i64 n] .tight) := get_app hX
 have gC : (h ++ [.arr c .tight])[h.length]? = some (.arr c .tight) := get_new
 have lX := ld gX
 have lC := ld gC
 have hg := gCost_fit hf t0 t1
 by_cases k : o.kind = 1
 ·have hG : gCost o t = o.n * t := by unfold gCost; rw [if_pos k]
  rw [hG] at hg ⊢
  have w1 : IntKind.i64.wrap (o.n * t) = o.n * t := wrap_in _ (by omega) (by omega)
  have w2 : IntKind.i64.wrap (n + o.n * t) = n + o.n * t := wrap_in _ (by omega) (by omega)
  have sX := sto1 gX (o := 0) (v := .int .i64 (n + o.n * t)) (by simp) rfl
  simp [lX, lC, c0, c1, k, w1, w2, sX]
  exact ⟨by rw [List.getElem?_set_self (lt_of_get gX)], (Keep.app _ _ _).trans (Keep.set _ _ rfl)⟩
 ·have hG : gCost o t = 0 := by unfold gCost; rw [if_neg k]
  rw [hG]
  simp [lC, c0, k]
  exact ⟨by simpa using gX, Keep.app _ _ _⟩
structure EaH (h : Heap) (X : Nat) (tv : CV) (now : Int) (ts : List Int) (acc : Int) (h' : Heap) : Prop where
 k : Keep (fun b => b = X) h h'
 x : h'[X]? = some (.arr [.int .i64 acc] .tight)
 r : Roomy h' 1 tv (ints .i64 (now :: ts).reverse)
 b : ∀ b, tv.blk = some b → h.length ≤ b
 t : tOk (now :: ts)
 d : ts.length ≤ 3
theorem EaH.on {h : Heap} {X : Nat} {tv : CV} {now : Int} {ts : List Int} {acc : Int} {h1 h2 : Heap} (q : EaH h X tv now ts acc h1) (k : Keep NoneOf h1 h2) : EaH h X tv now ts acc h2 :=
 ⟨q.k.then k fun _ _ e => e.elim, k.at q.x id, q.r.keep k fun _ _ => id, q.b, q.t, q.d⟩
def EaI (K : Nat) (G : OpV → Int → Int) (h : Heap) (X : Nat) (v : CV) (l : List OpV) (n0 : Int) (m : Nat) (e : Env) (h' : Heap) : Prop :=
 ∃ (i : Nat) (tv : CV) (now : Int) (ts : List Int) (acc : Int), i ≤ l.length ∧ m = l.length - i ∧ e = [(1, .fn K [.ptr X 0]), (4, tv), (9, v), (10, .int .i64 l.length), (11, .int .i64 i)] ∧ EaH h X tv now ts (n0 + acc) h' ∧
  depthOk (l.drop i) ts.length ∧ eachP G l 1 [] 0 = eachP G (l.drop i) now ts acc ∧ 0 ≤ acc ∧ acc ≤ i * 32768000
theorem each_spec (lp : LP p) {K : Nat} {G : OpV → Int → Int} (see : SeeOk p K G) (hG : ∀ o t, opFit o → 1 ≤ t → t ≤ 32768 → 0 ≤ G o t ∧ G o t ≤ 32768000)
  {h : Heap} {v : CV} {l : List OpV} {P : Nat → Prop} {X : Nat} {n0 : Int} (s : Sl opC h P v l) (hP : ¬ P X) (hX : h[X]? = some (.arr [.int .i64 n0] .tight)) (h0 : 0 ≤ n0) (h1 : n0 ≤ 1000) (hl : l.length ≤ 1000) (hd : depthOk l 0) (hf : ∀ o ∈ l, opFit o) :
  WF p 297 [v, .fn K [.ptr X 0]] h fun _ h' => h'[X]? = some (.arr [.int .i64 (n0 + eachP G l 1 [] 0)] .tight) ∧ Keep (fun b => b = X) h h' := by
 refine WF_of (by rw [lp.pg]; exact S.pg297) (lp.no ⟨rfl, rfl⟩) ?_
 show W p S.b297 _ _ (retQ [] _)
 unfold S.b297
 have sA := s.on (Keep.app NoneOf h [.arr [.int .i64 1] .tight])
 have nA := sA.len (by decide)
 have hXl := lt_of_get hX
 simp [fillC, splice, nA]
 refine W_loop (EaI K G h X v l n0) ?_ l.length ⟨0, .sl h.length 0 1 1, 1, [], 0, by omega, by omega, rfl, ⟨Keep.app _ _ _, by simpa using get_app hX, ?_, by simp [CV.blk], ⟨by omega, by decide, trivial⟩, by simp⟩, hd, rfl, by omega, by omega⟩
 ·rintro m e hh ⟨i, tv, now, ts, acc, hi, rfl, rfl, q, hdd, hea, a0, a1⟩
  by_cases hie : i = l.length
  ·subst hie
   rw [List.drop_length, eachP] at hea
   simp
   rw [hea]
   exact ⟨q.x, q.k⟩
  ·have hlt : i < l.length := by omega
   have hlt' : (i : Int) < l.length := by omega
   have hw : IntKind.i64.wrap ((i : Int) + 1) = ((i + 1 : Nat) : Int) := by rw [w64 (by omega) (by omega)]; omega
   obtain ⟨bb, ob, row, x1, x2, x3, x4⟩ := (s.keep q.k fun b hb e => hP (by rw [← e]; exact hb)).row (k := .i64) (by decide) hlt
   have hrl := opC.len x4
   have hfl := opC.flat x4
   have hro := opC.on x4 (Keep.app NoneOf hh [.arr row .tight])
   obtain ⟨cv, hC, sc⟩ := x4
   have c0 : row[0]? = some (.int .i64 l[i].kind) := by subst hC; rfl
   have c1 : row[1]? = some (.int .i64 l[i].n) := by subst hC; rfl
   clear hC sc
   simp only [opC] at hrl x1 x2
   have st := store_new (h := hh) (row := row) (z := [.int .i64 0, .int .i64 0, .int .i64 0, .int .i64 0, .nils]) hrl hfl
   have q1 := q.on (Keep.app NoneOf hh [.arr row .tight])
   have gO : (hh ++ [.arr row .tight])[hh.length]? = some (.arr row .tight) := get_new
   have lO := ld gO
   have lOw := ldw gO hrl
   have hfit := hf _ (List.getElem_mem hlt)
   have ht := tOk_le q.t q.d
   rw [List.drop_eq_getElem_cons hlt, depthOk] at hdd
   rw [List.drop_eq_getElem_cons hlt] at hea
   have nt := q1.r.read.len (by decide)
   rw [Nat.div_one, ints_length, List.length_reverse, List.length_cons] at nt
   have wt : IntKind.i64.wrap (ts.length : Int) = (ts.length : Int) := wrap_in _ (by have := q.d; omega) (by have := q.d; omega)
   have hltT : ts.length < (now :: ts).reverse.length := by simp
   obtain ⟨b1, o1, y1, y2, y3⟩ := readI_idx (k' := .i64) q1.r.read hltT
   have hel : (now :: ts).reverse[ts.length] = now := by simp
   rw [hel] at y3
   have x2' : loadAt hh bb ob (some 5) = some (.agg row) := x2
   have hmem : (hh ++ [Obj.arr [.int .i64 0, .int .i64 0, .int .i64 0, .int .i64 0, .nils] .tight]).length = hh.length + 1 := by simp
   have ff : fits (some 5) (.agg row) = true := by simp [hrl]
   by_cases k8 : l[i].kind = 8
   ·rw [if_pos k8] at hdd
    rw [show eachP G (l[i] :: l.drop (i + 1)) now ts acc = eachP G (l.drop (i + 1)) (now * l[i].n) (now :: ts) acc by simp only [eachP, if_pos k8]] at hea
    have hn := hfit.1 k8
    have hm0 : 1 ≤ now * l[i].n := by
     have := Int.mul_le_mul ht.1 hn.1 (by omega) (by omega)
     omega
    have hm1 : now * l[i].n ≤ 1048576 := by
     calc now * l[i].n ≤ 32768 * l[i].n := Int.mul_le_mul_of_nonneg_right ht.2 (by omega)
      _ ≤ 32768 * 32 := Int.mul_le_mul_of_nonneg_left hn.2 (by omega)
      _ = 1048576 := by decide
    have wm : IntKind.i64.wrap (now * l[i].n) = now * l[i].n := wrap_in _ (by omega) (by omega)
    simp [hlt', x1, x2', st, ff, lO, c0, c1, nt, wt, y1, y3, k8, wm, fillC, splice, spread, cellsAt]
    have q2 := q1.on (Keep.app NoneOf (hh ++ [.arr row .tight]) [.arr [.int .i64 (now * l[i].n)] .tight])
    rw [List.append_assoc, List.cons_append, List.nil_append] at q2
    refine OV_room q2.r (n := ts.length + 1) (by simp) rfl rfl (by simp [big]; omega) (by simp [big]) (by decide) ?_
    intro v' h4 r4 k4 hb4
    simp [hw]
    refine ⟨l.length - (i + 1), by omega, i + 1, v', now * l[i].n, now :: ts, acc, by omega, rfl, rfl, ⟨?_, ?_, ?_, ?_, ?_, by simp; omega⟩, by simpa using hdd.2, hea, a0, by omega⟩
    ·exact q2.k.then k4 fun b hb e => by have := q2.b b e; omega
    ·exact k4.at q2.x fun e => by have := q2.b X e; omega
    ·rw [List.reverse_cons]
     simpa [ints] using r4
    ·intro b hb
     rcases hb4 b hb with g | g
     ·exact q2.b b g
     ·have := q.k.len; simp at g; omega
    ·refine ⟨hm0, ?_, q.t⟩
     rw [List.length_cons, Int.pow_succ]
     exact Int.mul_le_mul q.t.2.1 hn.2 (by omega) (Int.pow_nonneg (by omega))
   ·rw [if_neg k8] at hdd
    by_cases k9 : l[i].kind = 9
    ·rw [if_pos k9] at hdd
     obtain ⟨u, us, hts⟩ := List.exists_cons_of_length_pos hdd.1
     rw [show eachP G (l[i] :: l.drop (i + 1)) now ts acc = eachP G (l.drop (i + 1)) u us acc by rw [hts]; simp only [eachP, if_neg k8, if_pos k9]] at hea
     simp [hlt', x1, x2', st, ff, lO, c0, c1, nt, wt, y1, y3, k8, k9]
     have hmx : mxL [.int .i64 (ts.length : Int), .int .i64 1] = some (.int .i64 (ts.length : Int)) := by
      have : (1 : Int) ≤ ts.length := by omega
      have h2 : ¬ (ts.length : Int) < 1 := by omega
      simp only [mxL, mxR]
      simp
      omega
     obtain ⟨v', cut, rc, bc⟩ := q1.r.cut (by decide) (k := .i64) (m := ts.length) (by simp)
     simp [hmx, cut, hw]
     refine ⟨l.length - (i + 1), by omega, i + 1, v', u, us, acc, by omega, rfl, rfl, ⟨q1.k, q1.x, ?_, fun b hb => q1.b b (by rw [← bc]; exact hb), ?_, ?_⟩, ?_, hea, a0, by omega⟩
     ·have e : (ints .i64 (now :: ts).reverse).take (ts.length * 1) = ints .i64 (u :: us).reverse := by
       rw [List.reverse_cons, ints, List.map_append, Nat.mul_one, hts]
       exact List.take_left' (by simp)
      rwa [e] at rc
     ·have := q.t.2.2
      rwa [hts] at this
     ·have := q.d
      rw [hts] at this
      simp at this; omega
     ·have := hdd.2
      rw [hts] at this
      simpa using this
    ·rw [if_neg k9] at hdd
     rw [show eachP G (l[i] :: l.drop (i + 1)) now ts acc = eachP G (l.drop (i + 1)) now ts (acc + G l[i] now) by simp only [eachP, if_neg k8, if_neg k9]] at hea
     simp [hlt', x1, x2', st, ff, lO, lOw, c0, c1, nt, wt, y1, y3, k8, k9]
     have hG1 := hG l[i] now hfit ht.1 ht.2
     refine (see _ row l[i] _ now (n0 + acc) X hro hfit ht.1 ht.2 (by omega) (by omega) q1.x).mono ?_
     rintro r h2 ⟨g2, k2⟩
     simp [hw]
     refine ⟨l.length - (i + 1), by omega, i + 1, tv, now, ts, acc + G l[i] now, by omega, rfl, rfl, ⟨q1.k.trans k2, by rw [← Int.add_assoc]; exact g2, q1.r.keep k2 fun b hb e => ?_, q1.b, q1.t, q1.d⟩, hdd, hea, by omega, by omega⟩
     have := q1.b b hb; omega
 ·exact .inr ⟨h.length, 0, 1, 1, [.int .i64 1], .tight, rfl, by simp [ints], by omega, .inl rfl, by simp, by simp, by simp [ints]⟩
theorem cost_spec (lp : LP p) {h : Heap} {v : CV} {l : List OpV} {P : Nat → Prop} (s : Sl opC h P v l) (hl : l.length ≤ 1000) (hd : depthOk l 0) (hf : ∀ o ∈ l, opFit o) :
  WF p 287 [v] h fun r h' => r = .int .i64 (costP l) ∧ Keep NoneOf h h' := by
 refine WF_of (by rw [lp.pg]; exact S.pg287) (lp.no ⟨rfl, rfl⟩) ?_
 show W p S.b287 _ _ (retQ [.t 2] _)
 unfold S.b287
 have st := store_new (h := h) (row := [.int .i64 0]) (z := [.int .i64 0]) rfl rfl
 simp [st]
 refine (each_spec lp (seeCost lp) (fun o t hf t0 t1 => gCost_fit hf t0 t1) (s.lt.on (Keep.app NoneOf h [.arr [.int .i64 0] .tight])) (X := h.length) (n0 := 0) (fun e => by omega) get_new (by omega) (by omega) hl hd hf).mono ?_
 rintro r h2 ⟨g, k⟩
 have l2 := ld g
 simp [l2, costP]
 exact (Keep.app NoneOf h [.arr [.int .i64 0] .tight]).then k fun b hb e => by omega
theorem steps_spec (lp : LP p) {h : Heap} {v : CV} {l : List OpV} {P : Nat → Prop} (s : Sl opC h P v l) (hl : l.length ≤ 1000) (hd : depthOk l 0) (hf : ∀ o ∈ l, opFit o) :
  WF p 295 [v] h fun r h' => r = .int .i64 (stepsP l) ∧ Keep NoneOf h h' := by
 refine WF_of (by rw [lp.pg]; exact S.pg295) (lp.no ⟨rfl, rfl⟩) ?_
 show W p S.b295 _ _ (retQ [.t 2] _)
 unfold S.b295
 have st := store_new (h := h) (row := [.int .i64 0]) (z := [.int .i64 0]) rfl rfl
 simp [st]
 refine (each_spec lp (seeSteps lp) (fun o t hf t0 t1 => by omega) (s.lt.on (Keep.app NoneOf h [.arr [.int .i64 0] .tight])) (X := h.length) (n0 := 0) (fun e => by omega) get_new (by omega) (by omega) hl hd hf).mono ?_
 rintro r h2 ⟨g, k⟩
 have l2 := ld g
 simp [l2, stepsP]
 exact (Keep.app NoneOf h [.arr [.int .i64 0] .tight]).then k fun b hb e => by omega
def ordLe (s : Ord) (n : Nat) : Prop := s.1.length ≤ n ∧ s.2.length ≤ n ∧ ∀ f ∈ s.2, f.length ≤ n
theorem take_le {s s' : Ord} {o : OpV} {n : Nat} (h : takeP s o = some s') (k : ordLe s n) : ordLe s' (n + 1) := by
 obtain ⟨a, b, c⟩ := k
 have mono : ordLe s (n + 1) := ⟨by omega, by omega, fun f hf => by have := c f hf; omega⟩
 unfold takeP at h
 split at h
 ·split at h
  ·simp only [Option.some.injEq] at h
   subst h
   refine ⟨by simp; omega, by simp; omega, fun f hf => ?_⟩
   rcases List.mem_cons.1 hf with rfl | hf
   ·omega
   ·have := c f hf; omega
  ·cases h
 ·split at h
  ·split at h
   ·cases h
   ·rename_i f r hs
    split at h
    ·simp only [Option.some.injEq] at h
     subst h
     rw [hs] at b c
     exact ⟨by simp; omega, by simp at b ⊢; omega, fun g hg => by have := c g (by simp [hg]); omega⟩
    ·cases h
  ·split at h
   ·split at h
    ·rename_i hs
     simp only [Option.some.injEq] at h
     subst h
     exact ⟨by simp, by simp; omega, fun g hg => by have := c g hg; omega⟩
    ·rename_i x t hs
     split at h
     ·cases h
     ·simp only [Option.some.injEq] at h
      subst h
      rw [hs] at a
      exact ⟨by simp at a ⊢; omega, by simp; omega, fun g hg => by have := c g hg; omega⟩
   ·split at h
    ·split at h
     ·cases h
     ·rename_i x t hs
      split at h
      ·simp only [Option.some.injEq] at h
       subst h
       rw [hs] at a
       exact ⟨by simp at a ⊢; omega, by simp; omega, fun g hg => by have := c g hg; omega⟩
      ·cases h
    ·split at h
     ·cases h
     ·simp only [Option.some.injEq] at h
      subst h
      exact mono
theorem opFit_of {o : OpV} (h : opCheckP o = 0) : opFit o := by
 have k := opOk h
 have a := k.n0
 have b := k.n1
 constructor
 ·intro e
  rw [e] at a b
  simp [leastOf, mostOf] at a b
  exact ⟨a, b⟩
 ·intro e
  rw [e] at a b
  simp [leastOf, mostOf] at a b
  exact ⟨by omega, b⟩
def CkA (v : CV) (l : List OpV) (h : Heap) (m : Nat) (e : Env) (h' : Heap) : Prop :=
 ∃ i : Nat, i ≤ l.length ∧ m = l.length - i ∧ e = [(0, v), (13, v), (14, .int .i64 l.length), (15, .int .i64 i)] ∧ Keep NoneOf h h' ∧ badP l 0 = badP (l.drop i) i
def CkB (v : CV) (l : List OpV) (h : Heap) (R : Nat) (m : Nat) (e : Env) (h' : Heap) : Prop :=
 ∃ (i : Nat) (hv fv : CV) (s : Ord), i ≤ l.length ∧ m = l.length - i ∧ e = [(0, v), (7, .ptr R 0), (29, v), (30, .int .i64 l.length), (31, .int .i64 i)] ∧ OrH h R hv fv s h' ∧ orderP l ([], []) 0 = orderP (l.drop i) s i ∧ ordLe s i
theorem progCheck_spec (lp : LP p) {h : Heap} {v : CV} {l : List OpV} {P : Nat → Prop} (s : Sl opC h P v l) (hb : l.length ≤ big) (hc : ∀ o ∈ l, o.cases.length ≤ 1000000) :
  WF p 286 [v] h fun r h' => r = .tup [.int .i64 (progP l).1, .int .i64 (progP l).2] ∧ Keep NoneOf h h' := by
 refine WF_of (by rw [lp.pg]; exact S.pg286) (lp.no ⟨rfl, rfl⟩) ?_
 show W p S.b286 _ _ (retQ [.t 2, .t 3] _)
 unfold S.b286
 have n0 := s.len (by decide)
 by_cases h48 : 48 < l.length
 ·have h48' : (48 : Int) < l.length := by omega
  simp [n0, h48', progP, h48]
  exact Keep.refl _ _
 have h48' : ¬ (48 : Int) < l.length := by omega
 simp [n0, h48']
 refine W_loop (CkA v l h) ?_ l.length ⟨0, by omega, by omega, rfl, Keep.refl _ _, rfl⟩
 rintro m e h1 ⟨i, hi, rfl, rfl, k1, hbad⟩
 by_cases hie : i = l.length
 ·subst hie
  rw [List.drop_length, badP] at hbad
  have hok := badP_none hbad
  have n1 := (s.on k1).len (by decide)
  have n1' := (s.on (k1.trans (Keep.app NoneOf h1 [.arr [.nils, .nils] .tight]))).len (by decide)
  have hpr : progP l = match orderP l ([], []) 0 with
    | .inl i => ((i : Int), 11)
    | .inr s => if s.2 ≠ [] ∨ s.1 ≠ [] then ((l.length : Int) - 1, 11) else if 512 < stepsP l then (0, 4) else (0, 0) := by
   unfold progP
   rw [if_neg h48, hbad]
   cases orderP l ([], []) 0 <;> rfl
  simp [fillC, splice, n1, n1']
  refine W_loop (CkB v l h h1.length) ?_ l.length ⟨0, .nils, .nils, ([], []), by omega, by omega, rfl, ⟨k1.trans (Keep.app _ _ _), get_new, .inl ⟨rfl, rfl⟩, ⟨[], .inl ⟨rfl, rfl⟩, Rows.nil⟩, k1.len, by simp [CV.blk], by simp [CV.blk], by simp [CV.blk]⟩, rfl, by simp, by simp, by simp⟩
  rintro m e h2 ⟨i, hv, fv, s', hi, rfl, rfl, q, hor, hle⟩
  by_cases hie : i = l.length
  ·subst hie
   rw [List.drop_length, orderP] at hor
   rw [hor] at hpr
   simp only [] at hpr
   obtain ⟨cells, rf, rs⟩ := q.rf
   have nf := rf.read.len (by decide)
   have hcl : cells.length = s'.2.length := by have := rs.1; simpa [Cod.sl] using this
   rw [Nat.div_one, hcl] at nf
   have nh := q.rh.read.len (by decide)
   rw [Nat.div_one, ints_length, List.length_reverse] at nh
   have lR := ld q.o
   have n2 := (s.on q.k).len (by decide)
   have w1 : IntKind.i64.wrap ((l.length : Int) - 1) = (l.length : Int) - 1 := wrap_in _ (by omega) (by omega)
   by_cases e2 : s'.2 = []
   ·by_cases e1 : s'.1 = []
    ·rw [if_neg (by simp [e1, e2])] at hpr
     have z1 : s'.2.length = 0 := by rw [e2]; rfl
     have z2 : s'.1.length = 0 := by rw [e1]; rfl
     simp [lR, nf, nh, z1, z2]
     refine (steps_spec lp (s.on q.k) (by omega) (by have := order_depth l _ _ _ hor; simpa using this) fun o ho => opFit_of (hok o ho)).mono ?_
     rintro r h3 ⟨rfl, k3⟩
     by_cases h5 : 512 < stepsP l
     ·rw [if_pos h5] at hpr
      simp [h5, hpr]
      exact q.k.trans k3
     ·rw [if_neg h5] at hpr
      simp [h5, hpr]
      exact q.k.trans k3
    ·rw [if_pos (.inr e1)] at hpr
     have z1 : s'.2.length = 0 := by rw [e2]; rfl
     have z2 : 0 < s'.1.length := List.length_pos_iff.2 e1
     have z2' : (0 : Int) < s'.1.length := by omega
     simp [lR, nf, nh, z1, z2, z2', n2, w1, hpr]
     exact q.k
   ·rw [if_pos (.inl e2)] at hpr
    have z1 : 0 < s'.2.length := List.length_pos_iff.2 e2
    have z1' : (0 : Int) < s'.2.length := by omega
    simp [lR, nf, nh, z1, z1', n2, w1, hpr]
    exact q.k
  ·have hlt : i < l.length := by omega
   have hlt' : (i : Int) < l.length := by omega
   have hw : IntKind.i64.wrap ((i : Int) + 1) = ((i + 1 : Nat) : Int) := by rw [w64 (by omega) (by omega)]; omega
   obtain ⟨bb, ob, row, x1, x2, x3, x4⟩ := (s.on q.k).row (k := .i64) (by decide) hlt
   have hrl := opC.len x4
   have hfl := opC.flat x4
   have hro := opC.on x4 (Keep.app NoneOf h2 [.arr row .tight])
   simp only [opC] at hrl x1 x2
   have x2' : loadAt h2 bb ob (some 5) = some (.agg row) := x2
   have st := store_new (h := h2) (row := row) (z := [.int .i64 0, .int .i64 0, .int .i64 0, .int .i64 0, .nils]) hrl hfl
   have lOw := ldw (get_new (h := h2) (o := .arr row .tight)) hrl
   have ff : fits (some 5) (.agg row) = true := by simp [hrl]
   simp [hlt', x1, x2', st, ff, lOw]
   refine (take_spec lp (q.on (Keep.app NoneOf h2 [.arr row .tight])) hro (by have := hle.1; omega) (by have := hle.2.1; omega) fun f hf => by have := hle.2.2 f hf; omega).mono ?_
   intro r h3 tq
   unfold TakeQ at tq
   rw [List.drop_eq_getElem_cons hlt] at hor
   simp only [orderP] at hor
   cases ht : takeP s' l[i] with
   | none =>
     rw [ht] at tq hor
     obtain ⟨rfl, k3⟩ := tq
     simp only [] at hor
     rw [hor] at hpr
     simp only [] at hpr
     simp [hpr]
     exact k3
   | some s2 =>
     rw [ht] at tq hor
     obtain ⟨rfl, hv', fv', q'⟩ := tq
     simp only [] at hor
     simp [hw]
     exact ⟨l.length - (i + 1), by omega, i + 1, hv', fv', s2, by omega, rfl, rfl, q', hor, take_le ht hle⟩
 ·have hlt : i < l.length := by omega
  have hlt' : (i : Int) < l.length := by omega
  have hw : IntKind.i64.wrap ((i : Int) + 1) = ((i + 1 : Nat) : Int) := by rw [w64 (by omega) (by omega)]; omega
  obtain ⟨bb, ob, row, x1, x2, x3, x4⟩ := (s.on k1).row (k := .i64) (by decide) hlt
  have hrl := opC.len x4
  have hfl := opC.flat x4
  have hro := opC.on x4 (Keep.app NoneOf h1 [.arr row .tight])
  simp only [opC] at hrl x1 x2
  have x2' : loadAt h1 bb ob (some 5) = some (.agg row) := x2
  have st := store_new (h := h1) (row := row) (z := [.int .i64 0, .int .i64 0, .int .i64 0, .int .i64 0, .nils]) hrl hfl
  have lOw := ldw (get_new (h := h1) (o := .arr row .tight)) hrl
  have ff : fits (some 5) (.agg row) = true := by simp [hrl]
  have x2n := load_on x2' (Keep.app NoneOf h1 [.arr [.int .i64 0, .int .i64 0, .int .i64 0, .int .i64 0, .nils] .tight]) (some 5) ob
  rw [x2'] at x2n
  simp [hlt', x1, x2', x2n, st, ff, lOw]
  refine (opCheck_spec lp hro).mono ?_
  rintro r h2 ⟨rfl, k2⟩
  have K2 := (k1.trans (Keep.app NoneOf h1 [.arr row .tight])).trans k2
  rw [List.drop_eq_getElem_cons hlt, badP] at hbad
  by_cases ho : opCheckP l[i] = 0
  ·rw [if_pos ho] at hbad
   simp [ho, hw]
   exact ⟨l.length - (i + 1), by omega, i + 1, by omega, rfl, rfl, K2, hbad⟩
  ·rw [if_neg ho] at hbad
   have hpr : progP l = ((i : Int), opCheckP l[i]) := by
    unfold progP
    rw [if_neg h48, hbad]
   simp [ho, hpr]
   exact K2
abbrev OpenV := List Int × Int × Int
def openC : Cod OpenV where
 n := 3
 rep h P c x := ∃ v, c = [v, .int .i64 x.2.1, .int .i64 x.2.2] ∧ Sl (.int .i64) h P v x.1.reverse
 len := by rintro h P c x ⟨v, rfl, _⟩; rfl
 flat := by rintro h P c x ⟨v, rfl, s⟩; simp only [List.all_cons, List.all_nil, s.scalar]; rfl
 mono := by rintro h P Q c x ⟨v, rfl, s⟩ k; exact ⟨v, rfl, s.mono k⟩
 keep := by rintro h h' P S c x ⟨v, rfl, s⟩ k hS; exact ⟨v, rfl, s.keep k hS⟩
 lt := by rintro h P c x ⟨v, rfl, s⟩; exact ⟨v, rfl, s.lt⟩
structure RgH (h : Heap) (hv ov : CV) (l : List Int) (os : List OpenV) (h' : Heap) : Prop where
 k : Keep NoneOf h h'
 hs : Sl (.int .i64) h' (fun b => h.length ≤ b ∧ ov.blk ≠ some b) hv l.reverse
 ro : ∃ cells, Roomy h' 3 ov cells ∧ Rows openC h' (fun b => h.length ≤ b ∧ ov.blk ≠ some b) cells os.reverse
 bo : ∀ b, ov.blk = some b → h.length ≤ b
theorem RgH.on {h h1 h2 : Heap} {hv ov : CV} {l : List Int} {os : List OpenV} (q : RgH h hv ov l os h1) (k : Keep NoneOf h1 h2) : RgH h hv ov l os h2 := by
 obtain ⟨cells, r, rs⟩ := q.ro
 exact ⟨q.k.trans k, q.hs.on k, ⟨cells, r.keep k fun _ _ => id, rs.keep k fun _ _ => id⟩, q.bo⟩
theorem RgH.held {h h1 h2 : Heap} {hv hv' ov : CV} {l l' : List Int} {os : List OpenV} (q : RgH h hv ov l os h1) (k : Keep NoneOf h1 h2) (s : Sl (.int .i64) h2 (fun b => h1.length ≤ b) hv' l'.reverse) : RgH h hv' ov l' os h2 := by
 have q2 := q.on k
 obtain ⟨cells, r, rs⟩ := q.ro
 exact ⟨q2.k, s.mono fun b hb => ⟨by have := q.k.len; omega, fun e => by have := r.blk_lt e; omega⟩, q2.ro, q2.bo⟩
structure StH (os : List OpenV) (st : Int) (i : Nat) : Prop where
 s0 : 0 ≤ st
 w0 : ∀ q ∈ os, 0 ≤ q.2.2
 n : ∀ q ∈ os, 1 ≤ q.2.1 ∧ q.2.1 ≤ 32
 d : os.length ≤ 3
 le : potS (os.map Prod.snd) st ≤ i * 32768
theorem StH.st {os : List OpenV} {st : Int} {i : Nat} (q : StH os st i) : st ≤ i * 32768 :=
 Int.le_trans (potS_ge (os.map Prod.snd) q.s0 fun u hu => by obtain ⟨a, ha, rfl⟩ := List.mem_map.1 hu; exact q.w0 a ha) q.le
theorem opRow {h : Heap} {v : CV} {l : List OpV} {P : Nat → Prop} (s : Sl opC h P v l) {i : Nat} (hi : i < l.length) :
  ∃ b o row, idxAddrV 5 v (.int .i64 (i : Int)) = some (.ptr b o) ∧ loadAt h b o (some 5) = some (.agg row) ∧ loadAt h b o none = some (.int .i64 l[i].kind) ∧ loadAt h b (o + 1) none = some (.int .i64 l[i].n) ∧ opC.rep h P row l[i] ∧ row.length = 5 := by
 obtain ⟨bb, ob, row, x1, x2, x3, x4⟩ := s.row (k := .i64) (by decide) hi
 have hrl := opC.len x4
 have y0 := x3 0 (by decide)
 have y1 := x3 1 (by decide)
 have hx4 := x4
 obtain ⟨cv, hC, sc⟩ := x4
 refine ⟨bb, ob, row, x1, x2, ?_, ?_, hx4, hrl⟩
 ·rw [Nat.add_zero] at y0
  rw [y0, hC]; rfl
 ·rw [y1, hC]; rfl
def Fo.size : Fo → Nat
 | .nil => 0
 | .op _ r => r.size + 1
 | .loop _ b _ r => b.size + r.size + 1
def FlatQ (h : Heap) (P : Nat → Prop) (l : List OpV) (r : CV) (h' : Heap) : Prop :=
 OwnL opC h' (fun b => P b ∧ b < h.length) r l ∧ (∀ b, r.blk = some b → h.length ≤ b) ∧ Keep NoneOf h h'
theorem FlatQ.on {h : Heap} {P : Nat → Prop} {l : List OpV} {r : CV} {h1 h2 : Heap} (q : FlatQ h P l r h1) (k : Keep NoneOf h1 h2) : FlatQ h P l r h2 := ⟨q.1.on k, q.2.1, q.2.2.trans k⟩
theorem prog_ok {l : List OpV} (h : (progP l).2 = 0) : l.length ≤ 48 ∧ (∀ o ∈ l, opCheckP o = 0) ∧ stepsP l ≤ 512 ∧ ∃ s', orderP l ([], []) 0 = .inr s' ∧ s'.2 = [] ∧ s'.1 = [] := by
 have h2 := h
 unfold progP at h
 by_cases h1 : 48 < l.length
 ·rw [if_pos h1] at h; simp at h
 rw [if_neg h1] at h
 cases hb : badP l 0 with
 | some q =>
   exfalso
   obtain ⟨i, e⟩ := q
   have : ∀ (l : List OpV) (i j : Nat) (e : Int), badP l i = some (j, e) → e ≠ 0 := by
    intro l
    induction l with
    | nil => intro i j e h; simp [badP] at h
    | cons o r ih =>
      intro i j e h
      unfold badP at h
      by_cases hx : opCheckP o = 0
      ·rw [if_pos hx] at h; exact ih _ _ _ h
      ·rw [if_neg hx] at h
       simp at h
       rw [← h.2]; exact hx
   rw [hb] at h
   exact this _ _ _ _ hb h
 | none =>
   rw [hb] at h
   simp only [] at h
   cases ho : orderP l ([], []) 0 with
   | inl i => rw [ho] at h; simp at h
   | inr s' =>
     rw [ho] at h
     simp only [] at h
     by_cases h3 : s'.2 ≠ [] ∨ s'.1 ≠ []
     ·rw [if_pos h3] at h; simp at h
     ·rw [if_neg h3] at h
      by_cases h5 : 512 < stepsP l
      ·rw [if_pos h5] at h; simp at h
      ·have h4 : s'.2 = [] ∧ s'.1 = [] := by
        constructor
        ·exact Classical.byContradiction fun e => h3 (.inl e)
        ·exact Classical.byContradiction fun e => h3 (.inr e)
       exact ⟨by omega, badP_none hb, by omega, s', rfl, h4.1, h4.2⟩
end Go.Cl
