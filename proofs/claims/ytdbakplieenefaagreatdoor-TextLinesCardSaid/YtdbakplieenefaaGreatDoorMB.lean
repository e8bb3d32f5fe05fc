/-
  Texts laid together: AProg AProgT AProgE AProgC AProgR AProgM.
-/
import Derived.Test.YtdbakplieenefaaGreatDoorM8
import Derived.Test.YtdbakplieenefaaGreatDoorM5
import Derived.Test.YtdbakplieenefaaGreatDoorM7
namespace Go.Cl
open Go
set_option linter.unusedSimpArgs false
set_option linter.unusedVariables false
set_option maxHeartbeats 2000000
variable {p : PP}
theorem cloneInts_spec (lp : LP p) {h : Heap} {v : CV} {l : List Int} {P : Nat → Prop} (s : Sl (.int .i64) h P v l) (hl : l.length ≤ big) :
  WF p 55 [v] h fun r h' => Keep NoneOf h h' ∧ Sl (.int .i64) h' (From h) r l := by
 refine WF_of (by rw [lp.pg]; exact S.pg55) (lp.no ⟨rfl, rfl⟩) ?_
 show W p S.b55 _ _ (retQ [.t 2] _)
 unfold S.b55
 obtain ⟨cells, rd, ⟨ok, _⟩, rs⟩ := s
 have hc := rs.1
 rcases rd with ⟨rfl, h0⟩ | ⟨b, o, n, c, cs, st, rfl, h1, h2, h3, h4⟩
 ·have : l = [] := List.eq_nil_of_length_eq_zero (by rw [h0] at hc; simpa [Cod.int] using hc.symm)
  subst this
  simp
  exact ⟨Keep.refl _ _, Sl.nil⟩
 ·have kap : Keep NoneOf h (h ++ [.arr [] .tight]) := Keep.app _ _ _
  have rd' : Read (h ++ [.arr [] .tight]) 1 (.sl b o n c) cells := .inr ⟨b, o, n, c, cs, st, rfl, h1, kap.at h2 id, h3, h4⟩
  have e : spread (h ++ [.arr [] .tight]) 1 (.sl b o n c) = some (cells.length / 1, cells) := rd'.spread (by decide)
  have hcl : cells.length = l.length := by simpa [Cod.int] using hc
  rw [hcl, Nat.div_one] at e
  have ow0 : OwnL (.int .i64) (h ++ [.arr [] .tight]) NoneOf (.sl h.length 0 0 0) [] := ⟨[], .inr ⟨h.length, 0, .tight, rfl, rfl, .inl rfl, by simp⟩, Rows.nil, fun b _ hn => hn⟩
  have hnil : fillC [] [] = some [] := rfl
  simp [hnil, e]
  refine OV_pushes (e := .int .i64) (m := l) ow0 (rows_ints.2 (rows_ints.1 rs)) rfl (fun _ hb => hb.elim) (by simp) hl (by decide) ?_
  intro lv' h2 o2 k2 hb2
  simp
  refine ⟨kap.then k2 fun b hb e => by simp [CV.blk] at e; omega, (OwnL.sl (by simpa using o2)).mono fun b hb => ?_⟩
  rcases hb with hb | hb
  ·exact hb.elim
  ·simp only [From]
   rcases hb2 b hb with hq | hq
   ·simp [CV.blk] at hq; omega
   ·simp at hq; omega
structure OrH (h : Heap) (R : Nat) (hv fv : CV) (s : Ord) (h' : Heap) : Prop where
 k : Keep NoneOf h h'
 o : h'[R]? = some (.arr [hv, fv] .tight)
 rh : Roomy h' 1 hv (ints .i64 s.1.reverse)
 rf : ∃ cells, Roomy h' 1 fv cells ∧ Rows (Cod.sl (.int .i64)) h' (fun b => b ≠ R ∧ hv.blk ≠ some b ∧ fv.blk ≠ some b) cells (s.2.reverse.map List.reverse)
 b0 : h.length ≤ R
 bh : ∀ b, hv.blk = some b → h.length ≤ b ∧ b ≠ R
 bf : ∀ b, fv.blk = some b → h.length ≤ b ∧ b ≠ R
 ap : ∀ b, hv.blk = some b → fv.blk ≠ some b
theorem Roomy.scalar {h : Heap} {esz : Nat} {v : CV} {l : List CV} (g : Roomy h esz v l) : v.scalar = true := g.read.scalar
theorem Roomy.blk_lt {h : Heap} {esz : Nat} {v : CV} {l : List CV} (g : Roomy h esz v l) {b : Nat} (hb : v.blk = some b) : b < h.length := g.read.blk_lt b hb
theorem OrH.on {h h1 h2 : Heap} {R : Nat} {hv fv : CV} {s : Ord} (q : OrH h R hv fv s h1) (k : Keep NoneOf h1 h2) : OrH h R hv fv s h2 := by
 obtain ⟨cells, rf, rs⟩ := q.rf
 exact ⟨q.k.trans k, k.at q.o id, q.rh.keep k fun _ _ => id, ⟨cells, rf.keep k fun _ _ => id, rs.keep k fun _ _ => id⟩, q.b0, q.bh, q.bf, q.ap⟩
theorem OrH.setH {h h1 h2 : Heap} {R : Nat} {hv hv' fv : CV} {s : Ord} {l : List Int} (q : OrH h R hv fv s h1) (k : Keep (fun b => hv.blk = some b) h1 h2) (r : Roomy h2 1 hv' (ints .i64 l.reverse)) (hb : ∀ b, hv'.blk = some b → hv.blk = some b ∨ h1.length ≤ b) :
  storeAt h2 R 0 [hv'] = some (h2.set R (.arr [hv', fv] .tight)) ∧ OrH h R hv' fv (l, s.2) (h2.set R (.arr [hv', fv] .tight)) := by
 obtain ⟨cells, rf, rs⟩ := q.rf
 have hR := lt_of_get q.o
 have g2 := k.at q.o (fun e => (q.bh R e).2 rfl)
 have s2 := sto1 g2 (o := 0) (v := hv') (by simp) r.scalar
 have hset : ([hv, fv] : List CV).set 0 hv' = [hv', fv] := rfl
 rw [hset] at s2
 have ke : Keep (fun b => b = R) h2 (h2.set R (.arr [hv', fv] .tight)) := Keep.set _ _ rfl
 have hnb : ∀ b, hv'.blk = some b → h.length ≤ b ∧ b ≠ R := fun b e => by
  rcases hb b e with hq | hq
  ·exact q.bh b hq
  ·have := q.k.len; exact ⟨by omega, by omega⟩
 have hap : ∀ b, hv'.blk = some b → fv.blk ≠ some b := fun b e ef => by
  rcases hb b e with hq | hq
  ·exact q.ap b hq ef
  ·have := rf.blk_lt ef; omega
 have rf2 := rf.keep k fun b e hh => q.ap b hh e
 refine ⟨s2, (q.k.then k fun b hb e => by have := q.bh b e; omega).then ke fun b hb e => by have := q.b0; omega, get_set_self (lt_of_get g2), r.keep ke fun b e hh => (hnb b e).2 hh, ⟨cells, rf2.keep ke fun b e hh => (q.bf b e).2 hh, ?_⟩, q.b0, hnb, q.bf, hap⟩
 have rs2 := (rs.lt.keep k fun b hb hh => hb.1.2.1 hh).keep ke fun b hb hh => hb.1.1 hh
 refine rs2.mono fun b hbb => ⟨hbb.1.1, fun e => ?_, hbb.1.2.2⟩
 rcases hb b e with hq | hq
 ·exact hbb.1.2.1 hq
 ·omega
theorem OrH.setF {h h1 h2 : Heap} {R : Nat} {hv fv fv' : CV} {s : Ord} {l : List (List Int)} {cells' : List CV} (q : OrH h R hv fv s h1) (k : Keep (fun b => fv.blk = some b) h1 h2) (r : Roomy h2 1 fv' cells') (hb : ∀ b, fv'.blk = some b → fv.blk = some b ∨ h1.length ≤ b)
  (rs : Rows (Cod.sl (.int .i64)) h2 (fun b => b ≠ R ∧ hv.blk ≠ some b ∧ fv'.blk ≠ some b) cells' (l.reverse.map List.reverse)) :
  storeAt h2 R 1 [fv'] = some (h2.set R (.arr [hv, fv'] .tight)) ∧ OrH h R hv fv' (s.1, l) (h2.set R (.arr [hv, fv'] .tight)) := by
 obtain ⟨cells, rf, _⟩ := q.rf
 have hR := lt_of_get q.o
 have g2 := k.at q.o (fun e => (q.bf R e).2 rfl)
 have s2 := sto1 g2 (o := 1) (v := fv') (by simp) r.scalar
 have hset : ([hv, fv] : List CV).set 1 fv' = [hv, fv'] := rfl
 rw [hset] at s2
 have ke : Keep (fun b => b = R) h2 (h2.set R (.arr [hv, fv'] .tight)) := Keep.set _ _ rfl
 have hnb : ∀ b, fv'.blk = some b → h.length ≤ b ∧ b ≠ R := fun b e => by
  rcases hb b e with hq | hq
  ·exact q.bf b hq
  ·have := q.k.len; exact ⟨by omega, by omega⟩
 have hap : ∀ b, hv.blk = some b → fv'.blk ≠ some b := fun b e ef => by
  rcases hb b ef with hq | hq
  ·exact q.ap b e hq
  ·have := q.rh.blk_lt e; omega
 have rh2 := q.rh.keep k fun b e hh => q.ap b e hh
 exact ⟨s2, (q.k.then k fun b hb e => by have := q.bf b e; omega).then ke fun b hb e => by have := q.b0; omega, get_set_self (lt_of_get g2), rh2.keep ke fun b e hh => (q.bh b e).2 hh, ⟨cells', r.keep ke fun b e hh => (hnb b e).2 hh, rs.keep ke fun b hb hh => hb.1 hh⟩, q.b0, q.bh, hnb, hap⟩
def TakeQ (h : Heap) (R : Nat) (s : Ord) (o : OpV) (r : CV) (h2 : Heap) : Prop :=
 match takeP s o with
 | some s' => r = .bool true ∧ ∃ hv fv, OrH h R hv fv s' h2
 | none => r = .bool false ∧ Keep NoneOf h h2
theorem TakeQ.no {h : Heap} {R : Nat} {s : Ord} {o : OpV} {h2 : Heap} (e : takeP s o = none) (k : Keep NoneOf h h2) : TakeQ h R s o (.bool false) h2 := by
 unfold TakeQ; rw [e]; exact ⟨rfl, k⟩
theorem TakeQ.yes {h : Heap} {R : Nat} {s s' : Ord} {o : OpV} {h2 : Heap} {hv fv : CV} (e : takeP s o = some s') (q : OrH h R hv fv s' h2) : TakeQ h R s o (.bool true) h2 := by
 unfold TakeQ; rw [e]; exact ⟨rfl, hv, fv, q⟩
theorem Roomy.ok {h : Heap} {esz : Nat} {v : CV} {l : List CV} (g : Roomy h esz v l) : v.ok := by
 rcases g with ⟨rfl, _⟩ | ⟨b, o, n, c, cs, st, rfl, h1, h2, _⟩
 ·trivial
 ·exact h2
theorem row1 {h : Heap} {v : CV} {l : List (List Int)} {P : Nat → Prop} (s : Sl (Cod.sl (.int .i64)) h P v l) {i : Nat} (hi : i < l.length) :
  ∃ b o c, idxAddrV 1 v (.int .i64 (i : Int)) = some (.ptr b o) ∧ loadAt h b o none = some c ∧ Sl (.int .i64) h P c l[i] := by
 obtain ⟨b0, o0, row, x1, x2, x3, v1, rfl, s1⟩ := s.row (k := .i64) (by decide) hi
 have x4 := x3 0 (by decide)
 simp at x4
 exact ⟨b0, o0, v1, x1, x4, s1⟩
theorem take_spec (lp : LP p) {h h1 : Heap} {R : Nat} {hv fv : CV} {s : Ord} {c : List CV} {o : OpV} {P : Nat → Prop} (q : OrH h R hv fv s h1) (ro : opC.rep h1 P c o) (hs1 : s.1.length ≤ 1000) (hs2 : s.2.length ≤ 1000) (hs3 : ∀ f ∈ s.2, f.length ≤ 1000) :
  WF p 294 [.ptr R 0, .agg c] h1 (TakeQ h R s o) := by
 refine WF_of (by rw [lp.pg]; exact S.pg294) (lp.no ⟨rfl, rfl⟩) ?_
 show W p S.b294 _ _ (retQ [.t 4] _)
 unfold S.b294
 have ro1 := opC.on ro (Keep.app NoneOf h1 [.arr c .tight])
 obtain ⟨cv, hC, sc⟩ := ro
 have c0 : c[0]? = some (.int .i64 o.kind) := by subst hC; rfl
 have c1 : c[1]? = some (.int .i64 o.n) := by subst hC; rfl
 have cl : c.length = 5 := by subst hC; rfl
 have q1 := q.on (Keep.app NoneOf h1 [.arr c .tight])
 have gX : (h1 ++ [.arr c .tight])[h1.length]? = some (.arr c .tight) := get_new
 have lX := ld gX
 have lW := ldw gX cl
 have lR := ld q1.o
 obtain ⟨cells, rf, rs⟩ := q1.rf
 have nf := rf.read.len (by decide)
 have hcl : cells.length = s.2.length := by have := rs.1; simpa [Cod.sl] using this
 rw [Nat.div_one, hcl] at nf
 have nh := q1.rh.read.len (by decide)
 rw [Nat.div_one, ints_length, List.length_reverse] at nh
 have w1 : IntKind.i64.wrap ((s.2.length : Int) - 1) = (s.2.length : Int) - 1 := wrap_in _ (by omega) (by omega)
 have w2 : IntKind.i64.wrap ((s.1.length : Int) - 1) = (s.1.length : Int) - 1 := wrap_in _ (by omega) (by omega)
 have hbl : ∀ b, hv.blk = some b → b < (h1 ++ [Obj.arr c .tight]).length := fun b e => q1.rh.blk_lt e
 have fbl : ∀ b, fv.blk = some b → b < (h1 ++ [Obj.arr c .tight]).length := fun b e => rf.blk_lt e
 have hRl := lt_of_get q1.o
 clear hC sc
 generalize hH : h1 ++ [Obj.arr c .tight] = H at *
 by_cases k8 : o.kind = 8
 ·simp [hH, lX, lR, nf, c0, k8, w1]
  refine WO_re_n ?_
  simp
  refine (cloneInts_spec lp (Sl.of_ints q1.rh.read q1.rh.ok) (by simp [big]; omega)).mono ?_
  rintro r h2 ⟨k2, s2⟩
  have q2 := q1.on k2
  have lR2 := ld q2.o
  refine ⟨fun c' => by simp [recheckB, wanted, Env.get, cls, evOp, Opd.ev, withH, CV.eqb, CV.eqb_refl, lR2], ?_⟩
  have hsc := s2.scalar
  simp [fillC, splice, spread, cellsAt, hsc, CV.cells_scalar hsc]
  have q3 := q2.on (Keep.app NoneOf h2 [.arr [r] .tight])
  have s3 := s2.lt.on (Keep.app NoneOf h2 [.arr [r] .tight])
  obtain ⟨cells3, rf3, rs3⟩ := q3.rf
  have hcl3 : cells3.length = s.2.length := by have := rs3.1; simpa [Cod.sl] using this
  have hl3 : h2.length < (h2 ++ [Obj.arr [r] .tight]).length := by simp
  have k2l := k2.len
  generalize h2 ++ [Obj.arr [r] .tight] = h3 at *
  refine OV_room rf3 (n := s.2.length) (by omega) rfl (by simp [hsc]) (by simp [big]; omega) (by simp [big]) (by decide) ?_
  intro v' h4 r4 k4 hb4
  have rs4 : Rows (Cod.sl (.int .i64)) h4 (fun b => b ≠ R ∧ hv.blk ≠ some b ∧ v'.blk ≠ some b) (cells3 ++ [r]) ((s.1 :: s.2).reverse.map List.reverse) := by
   rw [List.reverse_cons, List.map_append, List.map_cons, List.map_nil]
   refine Rows.append ?_ (Rows.one ⟨r, rfl, ?_⟩)
   ·refine (rs3.lt.keep k4 fun b hb hh => hb.1.2.2 hh).mono fun b hb => ⟨hb.1.1, hb.1.2.1, fun e => ?_⟩
    rcases hb4 b e with g | g
    ·exact hb.1.2.2 g
    ·omega
   ·refine (s3.keep k4 fun b hb hh => ?_).mono fun b hb => ?_
    ·have := fbl _ hh; have := hb.1; simp only [From] at this; omega
    ·have hbf := hb.1
     simp only [From] at hbf
     refine ⟨by omega, fun e => ?_, fun e => ?_⟩
     ·have := hbl _ e; omega
     ·rcases hb4 b e with g | g
      ·have := fbl _ g; omega
      ·have := hb.2; omega
  obtain ⟨st, q4⟩ := q3.setF k4 r4 hb4 rs4
  have lR4 := ld q4.o
  obtain ⟨cells5, rf5, rs5⟩ := q4.rf
  have n5 := rf5.read.len (by decide)
  have hcl5 : cells5.length = s.2.length + 1 := by have := rs5.1; simpa [Cod.sl] using this
  rw [Nat.div_one, hcl5] at n5
  simp [fits_scalar r4.scalar, CV.cells_scalar r4.scalar, st, lR4, n5]
  by_cases h3' : s.2.length < 3
  ·have : (s.2.length : Int) + 1 ≤ 3 := by omega
   simp [this]
   exact TakeQ.yes (by unfold takeP; rw [if_pos k8, if_pos h3']) q4
  ·have : ¬ (s.2.length : Int) + 1 ≤ 3 := by omega
   simp [this]
   exact TakeQ.no (by unfold takeP; rw [if_pos k8, if_neg h3']) q4.k
 by_cases k9 : o.kind = 9
 ·by_cases h0 : s.2 = []
  ·have hn : (s.2.length : Int) - 1 < 0 := by rw [h0]; simp
   simp [hH, lX, lR, nf, c0, k8, k9, w1, hn]
   exact TakeQ.no (by unfold takeP; rw [if_neg k8, if_pos k9, h0]) q1.k
  ·obtain ⟨f, rr, hs⟩ := List.exists_cons_of_ne_nil h0
   have hn : ¬ (s.2.length : Int) - 1 < 0 := by rw [hs]; simp
   have hlast : (s.2.length : Int) - 1 = (rr.length : Int) := by rw [hs]; simp
   have sF : Sl (Cod.sl (.int .i64)) H (fun b => b ≠ R ∧ hv.blk ≠ some b ∨ fv.blk = some b) fv (s.2.reverse.map List.reverse) := ⟨cells, rf.read, ⟨rf.ok, fun b hb => .inr hb⟩, rs.mono fun b hb => .inl ⟨hb.1, hb.2.1⟩⟩
   have hlt : rr.length < (s.2.reverse.map List.reverse).length := by rw [hs]; simp
   obtain ⟨b0, o0, c0', x1, x2, s3⟩ := row1 sF hlt
   have hel : (s.2.reverse.map List.reverse)[rr.length] = f.reverse := by simp [hs]
   rw [hel] at s3
   have sH : Sl (.int .i64) H (fun b => hv.blk = some b) hv s.1.reverse := Sl.of_ints q1.rh.read q1.rh.ok
   obtain ⟨v', cut, rc, bc⟩ := rf.cut (by decide) (k := .i64) (m := rr.length) (by rw [hcl, hs]; simp)
   rw [← hlast] at x1 cut
   simp [hH, lX, lR, nf, c0, k8, k9, w1, hn, x1, x2]
   refine (intsEq_spec (by rw [lp.pg]; exact S.pg61) (lp.no ⟨rfl, rfl⟩) s3 sH ?_).mono ?_
   ·rw [List.length_reverse]
    have := hs3 f (by rw [hs]; simp)
    simp [big]; omega
   rintro r h2 ⟨rfl, rfl⟩
   by_cases hf : f = s.1
   ·have rs' : Rows (Cod.sl (.int .i64)) h2 (fun b => b ≠ R ∧ hv.blk ≠ some b ∧ v'.blk ≠ some b) (cells.take (rr.length * 1)) (rr.reverse.map List.reverse) := by
     have := rs.take (m := rr.length) (by rw [hs]; simp)
     rw [bc]
     have e : (s.2.reverse.map List.reverse).take rr.length = rr.reverse.map List.reverse := by
      rw [hs, List.reverse_cons, List.map_append]
      exact List.take_left' (by simp)
     rwa [e] at this
    obtain ⟨st, q4⟩ := q1.setF (l := rr) (fv' := v') (Keep.refl _ _) rc (fun b hb => .inl (by rw [← bc]; exact hb)) rs'
    simp [hf, lR, cut, fits_scalar rc.scalar, CV.cells_scalar rc.scalar, st]
    exact TakeQ.yes (by unfold takeP; rw [if_neg k8, if_pos k9, hs]; simp [hf]) q4
   ·simp [hf]
    exact TakeQ.no (by unfold takeP; rw [if_neg k8, if_pos k9, hs]; simp [hf]) q1.k
 by_cases k2 : o.kind = 2
 ·have hpush : ∀ (K : CV × Heap → Prop), (∀ v' h4 st, storeAt h4 R 0 [v'] = some st → v'.scalar = true → OrH h R v' fv (o.n :: s.1, s.2) st → K (v', h4)) → OV (appendTo (H ++ [.arr [.int .i64 o.n] .tight]) 1 hv 1 [.int .i64 o.n]) K := by
   intro K kk
   have q3 := q1.on (Keep.app NoneOf H [.arr [.int .i64 o.n] .tight])
   refine OV_room q3.rh (n := s.1.length) (by simp) rfl (by simp) (by simp [big]; omega) (by simp [big]) (by decide) ?_
   intro v' h4 r4 k4 hb4
   obtain ⟨st, q4⟩ := q3.setH (l := o.n :: s.1) k4 (by rw [List.reverse_cons]; simpa [ints] using r4) hb4
   exact kk v' h4 _ st r4.scalar q4
  by_cases h0 : s.1 = []
  ·have hn : ¬ (0 : Int) < s.1.length := by rw [h0]; simp
   have hn' : ¬ 0 < s.1.length := by rw [h0]; simp
   simp [hH, lX, lR, nf, nh, c0, c1, k8, k9, k2, w1, w2, hn, hn', fillC, splice, spread, cellsAt]
   refine hpush _ fun v' h4 st hst hsc q4 => ?_
   simp [fits_scalar hsc, CV.cells_scalar hsc, hst]
   exact TakeQ.yes (by unfold takeP; rw [if_neg k8, if_neg k9, if_pos k2, h0]) (by rwa [h0] at q4)
  ·obtain ⟨x, t, hs⟩ := List.exists_cons_of_ne_nil h0
   have hn : (0 : Int) < s.1.length := by rw [hs]; simp
   have hn' : 0 < s.1.length := by rw [hs]; simp
   have hlast : (s.1.length : Int) - 1 = (t.length : Int) := by rw [hs]; simp
   have hlt : t.length < s.1.reverse.length := by rw [hs]; simp
   obtain ⟨b0, o0, x1, x2, x3⟩ := readI_idx (k' := .i64) q1.rh.read hlt
   have hel : s.1.reverse[t.length] = x := by simp [hs]
   rw [hel] at x3
   rw [← hlast] at x1
   by_cases hx : o.n ≤ x
   ·simp [hH, lX, lR, nf, nh, c0, c1, k8, k9, k2, w1, w2, hn, hn', x1, x3, hx]
    exact TakeQ.no (by unfold takeP; rw [if_neg k8, if_neg k9, if_pos k2, hs]; simp [hx]) q1.k
   ·simp [hH, lX, lR, nf, nh, c0, c1, k8, k9, k2, w1, w2, hn, hn', x1, x3, hx, fillC, splice, spread, cellsAt]
    refine hpush _ fun v' h4 st hst hsc q4 => ?_
    simp [fits_scalar hsc, CV.cells_scalar hsc, hst]
    exact TakeQ.yes (s' := (o.n :: s.1, s.2)) (by unfold takeP; rw [if_neg k8, if_neg k9, if_pos k2, hs]; simp [hx]) q4
 by_cases k3 : o.kind = 3
 ·by_cases h0 : s.1 = []
  ·have hn : (s.1.length : Int) = 0 := by rw [h0]; simp
   have hn' : s.1.length = 0 := by rw [h0]; simp
   simp [hH, lX, lR, nf, nh, c0, c1, k8, k9, k2, k3, w1, w2, hn, hn', h0]
   exact TakeQ.no (by unfold takeP; rw [if_neg k8, if_neg k9, if_neg k2, if_pos k3, h0]) q1.k
  ·obtain ⟨x, t, hs⟩ := List.exists_cons_of_ne_nil h0
   have hn : ¬ (s.1.length : Int) = 0 := by rw [hs]; simp; omega
   have hn' : ¬ s.1.length = 0 := by rw [hs]; simp
   have hlast : (s.1.length : Int) - 1 = (t.length : Int) := by rw [hs]; simp
   have hlt : t.length < s.1.reverse.length := by rw [hs]; simp
   obtain ⟨b0, o0, x1, x2, x3⟩ := readI_idx (k' := .i64) q1.rh.read hlt
   have hel : s.1.reverse[t.length] = x := by simp [hs]
   rw [hel] at x3
   obtain ⟨v', cut, rc, bc⟩ := q1.rh.cut (by decide) (k := .i64) (m := t.length) (by simp [hs])
   rw [← hlast] at x1 cut
   by_cases hx : x = o.n
   ·simp [hH, lX, lR, nf, nh, c0, c1, k8, k9, k2, k3, w1, w2, hn, hn', h0, x1, x3, hx, cut, fits_scalar rc.scalar, CV.cells_scalar rc.scalar]
    obtain ⟨st, q4⟩ := q1.setH (l := t) (hv' := v') (Keep.refl _ _) (by
     have e : (ints .i64 s.1.reverse).take (t.length * 1) = ints .i64 t.reverse := by
      rw [hs, List.reverse_cons, ints, List.map_append, Nat.mul_one]
      exact List.take_left' (by simp)
     rwa [e] at rc) (fun b hb => .inl (by rw [← bc]; exact hb))
    simp [st]
    exact TakeQ.yes (by unfold takeP; rw [if_neg k8, if_neg k9, if_neg k2, if_pos k3, hs]; simp [hx]) q4
   ·simp [hH, lX, lR, nf, nh, c0, c1, k8, k9, k2, k3, w1, w2, hn, hn', h0, x1, x3, hx]
    exact TakeQ.no (by unfold takeP; rw [if_neg k8, if_neg k9, if_neg k2, if_pos k3, hs]; simp [hx]) q1.k
 simp [hH, lX, lR, lW, nf, nh, c0, c1, k8, k9, k2, k3, w1, w2]
 refine (opWaits_spec lp ro1).mono ?_
 rintro r h2 ⟨rfl, kk2⟩
 have q2 := q1.on kk2
 have lR2 := ld q2.o
 have nh2 := q2.rh.read.len (by decide)
 rw [Nat.div_one, ints_length, List.length_reverse] at nh2
 have hT : takeP s o = if waitsP o = true ∧ s.1 ≠ [] then none else some s := by
  unfold takeP
  rw [if_neg k8, if_neg k9, if_neg k2, if_neg k3]
 cases hw : waitsP o with
 | false =>
   simp
   exact TakeQ.yes (by rw [hT, hw]; simp) q2
 | true =>
   by_cases hl : s.1 = []
   ·simp [lR2, nh2, hl]
    exact TakeQ.yes (by rw [hT, hw]; simp [hl]) q2
   ·have : s.1.length ≠ 0 := by simpa using hl
    simp [lR2, nh2, hl]
    exact TakeQ.no (by rw [hT, hw]; simp [hl]) q2.k
def tOk : List Int → Prop
 | [] => True
 | u :: r => 1 ≤ u ∧ u ≤ 32 ^ r.length ∧ tOk r
theorem tOk_le {u : Int} {r : List Int} (h : tOk (u :: r)) (hr : r.length ≤ 3) : 1 ≤ u ∧ u ≤ 32768 := by
 refine ⟨h.1, Int.le_trans h.2.1 ?_⟩
 match r, hr with
 | [], _ => exact (by decide : (32 : Int) ^ 0 ≤ 32768)
 | [_], _ => exact (by decide : (32 : Int) ^ 1 ≤ 32768)
 | [_, _], _ => exact (by decide : (32 : Int) ^ 2 ≤ 32768)
 | [_, _, _], _ => exact (by decide : (32 : Int) ^ 3 ≤ 32768)
 | _ :: _ :: _ :: _ :: _, h => simp at h
def opFit (o : OpV) : Prop := (o.kind = 8 → 1 ≤ o.n ∧ o.n ≤ 32) ∧ (o.kind = 1 → 0 ≤ o.n ∧ o.n ≤ 1000)
def SeeOk (p : PP) (K : Nat) (G : OpV → Int → Int) : Prop := ∀ (h : Heap) (c : List CV) (o : OpV) (P : Nat → Prop) (t n : Int) (X : Nat), opC.rep h P c o → opFit o → 1 ≤ t → t ≤ 32768 → 0 ≤ n → n ≤ 100000000000 → h[X]? = some (.arr [.int .i64 n] .tight) →
 WF p K [.agg c, .int .i64 t, .ptr X 0] h fun _ h' => h'[X]? = some (.arr [.int .i64 (n + G o t)] .tight) ∧ Keep (fun b => b = X) h h'
theorem seeSteps (lp : LP p) : SeeOk p 301 (fun _ t => t) := by
 intro h c o P t n X ro hf t0 t1 n0 n1 hX
 refine WF_of (by rw [lp.pg]; exact S.pg301) (lp.no ⟨rfl, rfl⟩) ?_
 show W p S.b301 _ _ (retQ [] _)
 unfold S.b301
 have gX : (h ++ [.arr c .tight])[X]? = some (.arr [.int .i64 n] .tight) := get_app hX
 have lX := ld gX
 have sX := sto1 gX (o := 0) (v := .int .i64 (n + t)) (by simp) rfl
 have w : IntKind.i64.wrap (n + t) = n + t := wrap_in _ (by omega) (by omega)
 simp [lX, w, sX]
 exact ⟨by rw [List.getElem?_set_self (lt_of_get gX)], (Keep.app _ _ _).trans (Keep.set _ _ rfl)⟩
theorem gCost_fit {o : OpV} (hf : opFit o) {t : Int} (t0 : 1 ≤ t) (t1 : t ≤ 32768) : 0 ≤ gCost o t ∧ gCost o t ≤ 32768000 := by
 unfold gCost
 by_cases k : o.kind = 1
 ·rw [if_pos k]
  have := hf.2 k
  refine ⟨Int.mul_nonneg (by omega) (by omega), ?_⟩
  calc o.n * t ≤ 1000 * t := Int.mul_le_mul_of_nonneg_right (by omega) (by omega)
   _ ≤ 1000 * 32768 := Int.mul_le_mul_of_nonneg_left t1 (by omega)
   _ = 32768000 := by decide
 ·rw [if_neg k]; omega
theorem seeCost (lp : LP p) : SeeOk p 296 gCost := by
 intro h c o P t n X ro hf t0 t1 n0 n1 hX
 refine WF_of (by rw [lp.pg]; exact S.pg296) (lp.no ⟨rfl, rfl⟩) ?_
 show W p S.b296 _ _ (retQ [] _)
 unfold S.b296
 obtain ⟨cv, hC, sc⟩ := ro
 have c0 : c[0]? = some (.int .i64 o.kind) := by subst hC; rfl
 have c1 : c[1]? = some (.int .i64 o.n) := by subst hC; rfl
 clear hC
 have gX : (h ++ [.arr c .tight])[X]? = some (.arr [.int .i64 n] .tight) := get_app hX
 have gC : (h ++ [.arr c .tight])[h.length]? = some (.arr c .tight) := get_new
 have lX := ld gX
 have lC := ld gC
 have hg := gCost_fit hf t0 t1
 by_cases k : o.kind = 1
 ·have hG : gCost o t = o.n * t := by unfold gCost; rw [if_pos k]
  rw [hG] at hg ⊢
  have w1 : IntKind.i64.wrap (o.n * t) = o.n * t := wrap_in _ (by omega) (by omega)
  have w2 : IntKind.i64.wrap (n + o.n * t) = n + o.n * t := wrap_in _ (by omega) (by omega)
  have sX := sto1 gX (o := 0) (v := .int .i64 (n + o.n * t)) (by simp) rfl
  simp [lX, lC, c0, c1, k, w1, w2, sX]
  exact ⟨by rw [List.getElem?_set_self (lt_of_get gX)], (Keep.app _ _ _).trans (Keep.set _ _ rfl)⟩
 ·have hG : gCost o t = 0 := by unfold gCost; rw [if_neg k]
  rw [hG]
  simp [lC, c0, k]
  exact ⟨by simpa using gX, Keep.app _ _ _⟩
structure EaH (h : Heap) (X : Nat) (tv : CV) (now : Int) (ts : List Int) (acc : Int) (h' : Heap) : Prop where
 k : Keep (fun b => b = X) h h'
 x : h'[X]? = some (.arr [.int .i64 acc] .tight)
 r : Roomy h' 1 tv (ints .i64 (now :: ts).reverse)
 b : ∀ b, tv.blk = some b → h.length ≤ b
 t : tOk (now :: ts)
 d : ts.length ≤ 3
theorem EaH.on {h : Heap} {X : Nat} {tv : CV} {now : Int} {ts : List Int} {acc : Int} {h1 h2 : Heap} (q : EaH h X tv now ts acc h1) (k : Keep NoneOf h1 h2) : EaH h X tv now ts acc h2 :=
 ⟨q.k.then k fun _ _ e => e.elim, k.at q.x id, q.r.keep k fun _ _ => id, q.b, q.t, q.d⟩
def EaI (K : Nat) (G : OpV → Int → Int) (h : Heap) (X : Nat) (v : CV) (l : List OpV) (n0 : Int) (m : Nat) (e : Env) (h' : Heap) : Prop :=
 ∃ (i : Nat) (tv : CV) (now : Int) (ts : List Int) (acc : Int), i ≤ l.length ∧ m = l.length - i ∧ e = [(1, .fn K [.ptr X 0]), (4, tv), (9, v), (10, .int .i64 l.length), (11, .int .i64 i)] ∧ EaH h X tv now ts (n0 + acc) h' ∧
  depthOk (l.drop i) ts.length ∧ eachP G l 1 [] 0 = eachP G (l.drop i) now ts acc ∧ 0 ≤ acc ∧ acc ≤ i * 32768000
theorem each_spec (lp : LP p) {K : Nat} {G : OpV → Int → Int} (see : SeeOk p K G) (hG : ∀ o t, opFit o → 1 ≤ t → t ≤ 32768 → 0 ≤ G o t ∧ G o t ≤ 32768000)
  {h : Heap} {v : CV} {l : List OpV} {P : Nat → Prop} {X : Nat} {n0 : Int} (s : Sl opC h P v l) (hP : ¬ P X) (hX : h[X]? = some (.arr [.int .i64 n0] .tight)) (h0 : 0 ≤ n0) (h1 : n0 ≤ 1000) (hl : l.length ≤ 1000) (hd : depthOk l 0) (hf : ∀ o ∈ l, opFit o) :
  WF p 297 [v, .fn K [.ptr X 0]] h fun _ h' => h'[X]? = some (.arr [.int .i64 (n0 + eachP G l 1 [] 0)] .tight) ∧ Keep (fun b => b = X) h h' := by
 refine WF_of (by rw [lp.pg]; exact S.pg297) (lp.no ⟨rfl, rfl⟩) ?_
 show W p S.b297 _ _ (retQ [] _)
 unfold S.b297
 have sA := s.on (Keep.app NoneOf h [.arr [.int .i64 1] .tight])
 have nA := sA.len (by decide)
 have hXl := lt_of_get hX
 simp [fillC, splice, nA]
 refine W_loop (EaI K G h X v l n0) ?_ l.length ⟨0, .sl h.length 0 1 1, 1, [], 0, by omega, by omega, rfl, ⟨Keep.app _ _ _, by simpa using get_app hX, ?_, by simp [CV.blk], ⟨by omega, by decide, trivial⟩, by simp⟩, hd, rfl, by omega, by omega⟩
 ·rintro m e hh ⟨i, tv, now, ts, acc, hi, rfl, rfl, q, hdd, hea, a0, a1⟩
  by_cases hie : i = l.length
  ·subst hie
   rw [List.drop_length, eachP] at hea
   simp
   rw [hea]
   exact ⟨q.x, q.k⟩
  ·have hlt : i < l.length := by omega
   have hlt' : (i : Int) < l.length := by omega
   have hw : IntKind.i64.wrap ((i : Int) + 1) = ((i + 1 : Nat) : Int) := by rw [w64 (by omega) (by omega)]; omega
   obtain ⟨bb, ob, row, x1, x2, x3, x4⟩ := (s.keep q.k fun b hb e => hP (by rw [← e]; exact hb)).row (k := .i64) (by decide) hlt
   have hrl := opC.len x4
   have hfl := opC.flat x4
   have hro := opC.on x4 (Keep.app NoneOf hh [.arr row .tight])
   obtain ⟨cv, hC, sc⟩ := x4
   have c0 : row[0]? = some (.int .i64 l[i].kind) := by subst hC; rfl
   have c1 : row[1]? = some (.int .i64 l[i].n) := by subst hC; rfl
   clear hC sc
   simp only [opC] at hrl x1 x2
   have st := store_new (h := hh) (row := row) (z := [.int .i64 0, .int .i64 0, .int .i64 0, .int .i64 0, .nils]) hrl hfl
   have q1 := q.on (Keep.app NoneOf hh [.arr row .tight])
   have gO : (hh ++ [.arr row .tight])[hh.length]? = some (.arr row .tight) := get_new
   have lO := ld gO
   have lOw := ldw gO hrl
   have hfit := hf _ (List.getElem_mem hlt)
   have ht := tOk_le q.t q.d
   rw [List.drop_eq_getElem_cons hlt, depthOk] at hdd
   rw [List.drop_eq_getElem_cons hlt] at hea
   have nt := q1.r.read.len (by decide)
   rw [Nat.div_one, ints_length, List.length_reverse, List.length_cons] at nt
   have wt : IntKind.i64.wrap (ts.length : Int) = (ts.length : Int) := wrap_in _ (by have := q.d; omega) (by have := q.d; omega)
   have hltT : ts.length < (now :: ts).reverse.length := by simp
   obtain ⟨b1, o1, y1, y2, y3⟩ := readI_idx (k' := .i64) q1.r.read hltT
   have hel : (now :: ts).reverse[ts.length] = now := by simp
   rw [hel] at y3
   have x2' : loadAt hh bb ob (some 5) = some (.agg row) := x2
   have hmem : (hh ++ [Obj.arr [.int .i64 0, .int .i64 0, .int .i64 0, .int .i64 0, .nils] .tight]).length = hh.length + 1 := by simp
   have ff : fits (some 5) (.agg row) = true := by simp [hrl]
   by_cases k8 : l[i].kind = 8
   ·rw [if_pos k8] at hdd
    rw [show eachP G (l[i] :: l.drop (i + 1)) now ts acc = eachP G (l.drop (i + 1)) (now * l[i].n) (now :: ts) acc by simp only [eachP, if_pos k8]] at hea
    have hn := hfit.1 k8
    have hm0 : 1 ≤ now * l[i].n := by
     have := Int.mul_le_mul ht.1 hn.1 (by omega) (by omega)
     omega
    have hm1 : now * l[i].n ≤ 1048576 := by
     calc now * l[i].n ≤ 32768 * l[i].n := Int.mul_le_mul_of_nonneg_right ht.2 (by omega)
      _ ≤ 32768 * 32 := Int.mul_le_mul_of_nonneg_left hn.2 (by omega)
      _ = 1048576 := by decide
    have wm : IntKind.i64.wrap (now * l[i].n) = now * l[i].n := wrap_in _ (by omega) (by omega)
    simp [hlt', x1, x2', st, ff, lO, c0, c1, nt, wt, y1, y3, k8, wm, fillC, splice, spread, cellsAt]
    have q2 := q1.on (Keep.app NoneOf (hh ++ [.arr row .tight]) [.arr [.int .i64 (now * l[i].n)] .tight])
    rw [List.append_assoc, List.cons_append, List.nil_append] at q2
    refine OV_room q2.r (n := ts.length + 1) (by simp) rfl rfl (by simp [big]; omega) (by simp [big]) (by decide) ?_
    intro v' h4 r4 k4 hb4
    simp [hw]
    refine ⟨l.length - (i + 1), by omega, i + 1, v', now * l[i].n, now :: ts, acc, by omega, rfl, rfl, ⟨?_, ?_, ?_, ?_, ?_, by simp; omega⟩, by simpa using hdd.2, hea, a0, by omega⟩
    ·exact q2.k.then k4 fun b hb e => by have := q2.b b e; omega
    ·exact k4.at q2.x fun e => by have := q2.b X e; omega
    ·rw [List.reverse_cons]
     simpa [ints] using r4
    ·intro b hb
     rcases hb4 b hb with g | g
     ·exact q2.b b g
     ·have := q.k.len; simp at g; omega
    ·refine ⟨hm0, ?_, q.t⟩
     rw [List.length_cons, Int.pow_succ]
     exact Int.mul_le_mul q.t.2.1 hn.2 (by omega) (Int.pow_nonneg (by omega))
   ·rw [if_neg k8] at hdd
    by_cases k9 : l[i].kind = 9
    ·rw [if_pos k9] at hdd
     obtain ⟨u, us, hts⟩ := List.exists_cons_of_length_pos hdd.1
     rw [show eachP G (l[i] :: l.drop (i + 1)) now ts acc = eachP G (l.drop (i + 1)) u us acc by rw [hts]; simp only [eachP, if_neg k8, if_pos k9]] at hea
     simp [hlt', x1, x2', st, ff, lO, c0, c1, nt, wt, y1, y3, k8, k9]
     have hmx : mxL [.int .i64 (ts.length : Int), .int .i64 1] = some (.int .i64 (ts.length : Int)) := by
      have : (1 : Int) ≤ ts.length := by omega
      have h2 : ¬ (ts.length : Int) < 1 := by omega
      simp only [mxL, mxR]
      simp
      omega
     obtain ⟨v', cut, rc, bc⟩ := q1.r.cut (by decide) (k := .i64) (m := ts.length) (by simp)
     simp [hmx, cut, hw]
     refine ⟨l.length - (i + 1), by omega, i + 1, v', u, us, acc, by omega, rfl, rfl, ⟨q1.k, q1.x, ?_, fun b hb => q1.b b (by rw [← bc]; exact hb), ?_, ?_⟩, ?_, hea, a0, by omega⟩
     ·have e : (ints .i64 (now :: ts).reverse).take (ts.length * 1) = ints .i64 (u :: us).reverse := by
       rw [List.reverse_cons, ints, List.map_append, Nat.mul_one, hts]
       exact List.take_left' (by simp)
      rwa [e] at rc
     ·have := q.t.2.2
      rwa [hts] at this
     ·have := q.d
      rw [hts] at this
      simp at this; omega
     ·have := hdd.2
      rw [hts] at this
      simpa using this
    ·rw [if_neg k9] at hdd
     rw [show eachP G (l[i] :: l.drop (i + 1)) now ts acc = eachP G (l.drop (i + 1)) now ts (acc + G l[i] now) by simp only [eachP, if_neg k8, if_neg k9]] at hea
     simp [hlt', x1, x2', st, ff, lO, lOw, c0, c1, nt, wt, y1, y3, k8, k9]
     have hG1 := hG l[i] now hfit ht.1 ht.2
     refine (see _ row l[i] _ now (n0 + acc) X hro hfit ht.1 ht.2 (by omega) (by omega) q1.x).mono ?_
     rintro r h2 ⟨g2, k2⟩
     simp [hw]
     refine ⟨l.length - (i + 1), by omega, i + 1, tv, now, ts, acc + G l[i] now, by omega, rfl, rfl, ⟨q1.k.trans k2, by rw [← Int.add_assoc]; exact g2, q1.r.keep k2 fun b hb e => ?_, q1.b, q1.t, q1.d⟩, hdd, hea, by omega, by omega⟩
     have := q1.b b hb; omega
 ·exact .inr ⟨h.length, 0, 1, 1, [.int .i64 1], .tight, rfl, by simp [ints], by omega, .inl rfl, by simp, by simp, by simp [ints]⟩
theorem cost_spec (lp : LP p) {h : Heap} {v : CV} {l : List OpV} {P : Nat → Prop} (s : Sl opC h P v l) (hl : l.length ≤ 1000) (hd : depthOk l 0) (hf : ∀ o ∈ l, opFit o) :
  WF p 287 [v] h fun r h' => r = .int .i64 (costP l) ∧ Keep NoneOf h h' := by
 refine WF_of (by rw [lp.pg]; exact S.pg287) (lp.no ⟨rfl, rfl⟩) ?_
 show W p S.b287 _ _ (retQ [.t 2] _)
 unfold S.b287
 have st := store_new (h := h) (row := [.int .i64 0]) (z := [.int .i64 0]) rfl rfl
 simp [st]
 refine (each_spec lp (seeCost lp) (fun o t hf t0 t1 => gCost_fit hf t0 t1) (s.lt.on (Keep.app NoneOf h [.arr [.int .i64 0] .tight])) (X := h.length) (n0 := 0) (fun e => by omega) get_new (by omega) (by omega) hl hd hf).mono ?_
 rintro r h2 ⟨g, k⟩
 have l2 := ld g
 simp [l2, costP]
 exact (Keep.app NoneOf h [.arr [.int .i64 0] .tight]).then k fun b hb e => by omega
theorem steps_spec (lp : LP p) {h : Heap} {v : CV} {l : List OpV} {P : Nat → Prop} (s : Sl opC h P v l) (hl : l.length ≤ 1000) (hd : depthOk l 0) (hf : ∀ o ∈ l, opFit o) :
  WF p 295 [v] h fun r h' => r = .int .i64 (stepsP l) ∧ Keep NoneOf h h' := by
 refine WF_of (by rw [lp.pg]; exact S.pg295) (lp.no ⟨rfl, rfl⟩) ?_
 show W p S.b295 _ _ (retQ [.t 2] _)
 unfold S.b295
 have st := store_new (h := h) (row := [.int .i64 0]) (z := [.int .i64 0]) rfl rfl
 simp [st]
 refine (each_spec lp (seeSteps lp) (fun o t hf t0 t1 => by omega) (s.lt.on (Keep.app NoneOf h [.arr [.int .i64 0] .tight])) (X := h.length) (n0 := 0) (fun e => by omega) get_new (by omega) (by omega) hl hd hf).mono ?_
 rintro r h2 ⟨g, k⟩
 have l2 := ld g
 simp [l2, stepsP]
 exact (Keep.app NoneOf h [.arr [.int .i64 0] .tight]).then k fun b hb e => by omega
def ordLe (s : Ord) (n : Nat) : Prop := s.1.length ≤ n ∧ s.2.length ≤ n ∧ ∀ f ∈ s.2, f.length ≤ n
theorem take_le {s s' : Ord} {o : OpV} {n : Nat} (h : takeP s o = some s') (k : ordLe s n) : ordLe s' (n + 1) := by
 obtain ⟨a, b, c⟩ := k
 have mono : ordLe s (n + 1) := ⟨by omega, by omega, fun f hf => by have := c f hf; omega⟩
 unfold takeP at h
 split at h
 ·split at h
  ·simp only [Option.some.injEq] at h
   subst h
   refine ⟨by simp; omega, by simp; omega, fun f hf => ?_⟩
   rcases List.mem_cons.1 hf with rfl | hf
   ·omega
   ·have := c f hf; omega
  ·cases h
 ·split at h
  ·split at h
   ·cases h
   ·rename_i f r hs
    split at h
    ·simp only [Option.some.injEq] at h
     subst h
     rw [hs] at b c
     exact ⟨by simp; omega, by simp at b ⊢; omega, fun g hg => by have := c g (by simp [hg]); omega⟩
    ·cases h
  ·split at h
   ·split at h
    ·rename_i hs
     simp only [Option.some.injEq] at h
     subst h
     exact ⟨by simp, by simp; omega, fun g hg => by have := c g hg; omega⟩
    ·rename_i x t hs
     split at h
     ·cases h
     ·simp only [Option.some.injEq] at h
      subst h
      rw [hs] at a
      exact ⟨by simp at a ⊢; omega, by simp; omega, fun g hg => by have := c g hg; omega⟩
   ·split at h
    ·split at h
     ·cases h
     ·rename_i x t hs
      split at h
      ·simp only [Option.some.injEq] at h
       subst h
       rw [hs] at a
       exact ⟨by simp at a ⊢; omega, by simp; omega, fun g hg => by have := c g hg; omega⟩
      ·cases h
    ·split at h
     ·cases h
     ·simp only [Option.some.injEq] at h
      subst h
      exact mono
theorem opFit_of {o : OpV} (h : opCheckP o = 0) : opFit o := by
 have k := opOk h
 have a := k.n0
 have b := k.n1
 constructor
 ·intro e
  rw [e] at a b
  simp [leastOf, mostOf] at a b
  exact ⟨a, b⟩
 ·intro e
  rw [e] at a b
  simp [leastOf, mostOf] at a b
  exact ⟨by omega, b⟩
def CkA (v : CV) (l : List OpV) (h : Heap) (m : Nat) (e : Env) (h' : Heap) : Prop :=
 ∃ i : Nat, i ≤ l.length ∧ m = l.length - i ∧ e = [(0, v), (13, v), (14, .int .i64 l.length), (15, .int .i64 i)] ∧ Keep NoneOf h h' ∧ badP l 0 = badP (l.drop i) i
def CkB (v : CV) (l : List OpV) (h : Heap) (R : Nat) (m : Nat) (e : Env) (h' : Heap) : Prop :=
 ∃ (i : Nat) (hv fv : CV) (s : Ord), i ≤ l.length ∧ m = l.length - i ∧ e = [(0, v), (7, .ptr R 0), (29, v), (30, .int .i64 l.length), (31, .int .i64 i)] ∧ OrH h R hv fv s h' ∧ orderP l ([], []) 0 = orderP (l.drop i) s i ∧ ordLe s i
theorem progCheck_spec (lp : LP p) {h : Heap} {v : CV} {l : List OpV} {P : Nat → Prop} (s : Sl opC h P v l) (hb : l.length ≤ big) (hc : ∀ o ∈ l, o.cases.length ≤ 1000000) :
  WF p 286 [v] h fun r h' => r = .tup [.int .i64 (progP l).1, .int .i64 (progP l).2] ∧ Keep NoneOf h h' := by
 refine WF_of (by rw [lp.pg]; exact S.pg286) (lp.no ⟨rfl, rfl⟩) ?_
 show W p S.b286 _ _ (retQ [.t 2, .t 3] _)
 unfold S.b286
 have n0 := s.len (by decide)
 by_cases h48 : 48 < l.length
 ·have h48' : (48 : Int) < l.length := by omega
  simp [n0, h48', progP, h48]
  exact Keep.refl _ _
 have h48' : ¬ (48 : Int) < l.length := by omega
 simp [n0, h48']
 refine W_loop (CkA v l h) ?_ l.length ⟨0, by omega, by omega, rfl, Keep.refl _ _, rfl⟩
 rintro m e h1 ⟨i, hi, rfl, rfl, k1, hbad⟩
 by_cases hie : i = l.length
 ·subst hie
  rw [List.drop_length, badP] at hbad
  have hok := badP_none hbad
  have n1 := (s.on k1).len (by decide)
  have n1' := (s.on (k1.trans (Keep.app NoneOf h1 [.arr [.nils, .nils] .tight]))).len (by decide)
  have hpr : progP l = match orderP l ([], []) 0 with
    | .inl i => ((i : Int), 11)
    | .inr s => if s.2 ≠ [] ∨ s.1 ≠ [] then ((l.length : Int) - 1, 11) else if 512 < stepsP l then (0, 4) else (0, 0) := by
   unfold progP
   rw [if_neg h48, hbad]
   cases orderP l ([], []) 0 <;> rfl
  simp [fillC, splice, n1, n1']
  refine W_loop (CkB v l h h1.length) ?_ l.length ⟨0, .nils, .nils, ([], []), by omega, by omega, rfl, ⟨k1.trans (Keep.app _ _ _), get_new, .inl ⟨rfl, rfl⟩, ⟨[], .inl ⟨rfl, rfl⟩, Rows.nil⟩, k1.len, by simp [CV.blk], by simp [CV.blk], by simp [CV.blk]⟩, rfl, by simp, by simp, by simp⟩
  rintro m e h2 ⟨i, hv, fv, s', hi, rfl, rfl, q, hor, hle⟩
  by_cases hie : i = l.length
  ·subst hie
   rw [List.drop_length, orderP] at hor
   rw [hor] at hpr
   simp only [] at hpr
   obtain ⟨cells, rf, rs⟩ := q.rf
   have nf := rf.read.len (by decide)
   have hcl : cells.length = s'.2.length := by have := rs.1; simpa [Cod.sl] using this
   rw [Nat.div_one, hcl] at nf
   have nh := q.rh.read.len (by decide)
   rw [Nat.div_one, ints_length, List.length_reverse] at nh
   have lR := ld q.o
   have n2 := (s.on q.k).len (by decide)
   have w1 : IntKind.i64.wrap ((l.length : Int) - 1) = (l.length : Int) - 1 := wrap_in _ (by omega) (by omega)
   by_cases e2 : s'.2 = []
   ·by_cases e1 : s'.1 = []
    ·rw [if_neg (by simp [e1, e2])] at hpr
     have z1 : s'.2.length = 0 := by rw [e2]; rfl
     have z2 : s'.1.length = 0 := by rw [e1]; rfl
     simp [lR, nf, nh, z1, z2]
     refine (steps_spec lp (s.on q.k) (by omega) (by have := order_depth l _ _ _ hor; simpa using this) fun o ho => opFit_of (hok o ho)).mono ?_
     rintro r h3 ⟨rfl, k3⟩
     by_cases h5 : 512 < stepsP l
     ·rw [if_pos h5] at hpr
      simp [h5, hpr]
      exact q.k.trans k3
     ·rw [if_neg h5] at hpr
      simp [h5, hpr]
      exact q.k.trans k3
    ·rw [if_pos (.inr e1)] at hpr
     have z1 : s'.2.length = 0 := by rw [e2]; rfl
     have z2 : 0 < s'.1.length := List.length_pos_iff.2 e1
     have z2' : (0 : Int) < s'.1.length := by omega
     simp [lR, nf, nh, z1, z2, z2', n2, w1, hpr]
     exact q.k
   ·rw [if_pos (.inl e2)] at hpr
    have z1 : 0 < s'.2.length := List.length_pos_iff.2 e2
    have z1' : (0 : Int) < s'.2.length := by omega
    simp [lR, nf, nh, z1, z1', n2, w1, hpr]
    exact q.k
  ·have hlt : i < l.length := by omega
   have hlt' : (i : Int) < l.length := by omega
   have hw : IntKind.i64.wrap ((i : Int) + 1) = ((i + 1 : Nat) : Int) := by rw [w64 (by omega) (by omega)]; omega
   obtain ⟨bb, ob, row, x1, x2, x3, x4⟩ := (s.on q.k).row (k := .i64) (by decide) hlt
   have hrl := opC.len x4
   have hfl := opC.flat x4
   have hro := opC.on x4 (Keep.app NoneOf h2 [.arr row .tight])
   simp only [opC] at hrl x1 x2
   have x2' : loadAt h2 bb ob (some 5) = some (.agg row) := x2
   have st := store_new (h := h2) (row := row) (z := [.int .i64 0, .int .i64 0, .int .i64 0, .int .i64 0, .nils]) hrl hfl
   have lOw := ldw (get_new (h := h2) (o := .arr row .tight)) hrl
   have ff : fits (some 5) (.agg row) = true := by simp [hrl]
   simp [hlt', x1, x2', st, ff, lOw]
   refine (take_spec lp (q.on (Keep.app NoneOf h2 [.arr row .tight])) hro (by have := hle.1; omega) (by have := hle.2.1; omega) fun f hf => by have := hle.2.2 f hf; omega).mono ?_
   intro r h3 tq
   unfold TakeQ at tq
   rw [List.drop_eq_getElem_cons hlt] at hor
   simp only [orderP] at hor
   cases ht : takeP s' l[i] with
   | none =>
     rw [ht] at tq hor
     obtain ⟨rfl, k3⟩ := tq
     simp only [] at hor
     rw [hor] at hpr
     simp only [] at hpr
     simp [hpr]
     exact k3
   | some s2 =>
     rw [ht] at tq hor
     obtain ⟨rfl, hv', fv', q'⟩ := tq
     simp only [] at hor
     simp [hw]
     exact ⟨l.length - (i + 1), by omega, i + 1, hv', fv', s2, by omega, rfl, rfl, q', hor, take_le ht hle⟩
 ·have hlt : i < l.length := by omega
  have hlt' : (i : Int) < l.length := by omega
  have hw : IntKind.i64.wrap ((i : Int) + 1) = ((i + 1 : Nat) : Int) := by rw [w64 (by omega) (by omega)]; omega
  obtain ⟨bb, ob, row, x1, x2, x3, x4⟩ := (s.on k1).row (k := .i64) (by decide) hlt
  have hrl := opC.len x4
  have hfl := opC.flat x4
  have hro := opC.on x4 (Keep.app NoneOf h1 [.arr row .tight])
  simp only [opC] at hrl x1 x2
  have x2' : loadAt h1 bb ob (some 5) = some (.agg row) := x2
  have st := store_new (h := h1) (row := row) (z := [.int .i64 0, .int .i64 0, .int .i64 0, .int .i64 0, .nils]) hrl hfl
  have lOw := ldw (get_new (h := h1) (o := .arr row .tight)) hrl
  have ff : fits (some 5) (.agg row) = true := by simp [hrl]
  have x2n := load_on x2' (Keep.app NoneOf h1 [.arr [.int .i64 0, .int .i64 0, .int .i64 0, .int .i64 0, .nils] .tight]) (some 5) ob
  rw [x2'] at x2n
  simp [hlt', x1, x2', x2n, st, ff, lOw]
  refine (opCheck_spec lp hro).mono ?_
  rintro r h2 ⟨rfl, k2⟩
  have K2 := (k1.trans (Keep.app NoneOf h1 [.arr row .tight])).trans k2
  rw [List.drop_eq_getElem_cons hlt, badP] at hbad
  by_cases ho : opCheckP l[i] = 0
  ·rw [if_pos ho] at hbad
   simp [ho, hw]
   exact ⟨l.length - (i + 1), by omega, i + 1, by omega, rfl, rfl, K2, hbad⟩
  ·rw [if_neg ho] at hbad
   have hpr : progP l = ((i : Int), opCheckP l[i]) := by
    unfold progP
    rw [if_neg h48, hbad]
   simp [ho, hpr]
   exact K2
def AlInv (v0 v1 : CV) (a b : List Int) (h : Heap) (m : Nat) (e : Env) (h' : Heap) : Prop :=
 ∃ i, i ≤ a.length ∧ m = a.length - i ∧ e = [(0, v0), (1, v1), (5, .int .i64 (i : Nat))] ∧ h' = h ∧ a.take i = b.take i
theorem alike_spec {h : Heap} {v0 v1 : CV} {a b : List Int} {P Q : Nat → Prop} (hp : p.Pg 292 = some S.f292) (hq : p.pr 292 = none) (s0 : Sl (.int .i64) h P v0 a) (s1 : Sl (.int .i64) h Q v1 b) (ha : a.length ≤ big) :
  WF p 292 [v0, v1] h fun r h' => r = .bool (decide (a = b)) ∧ h' = h := by
 refine WF_of hp hq ?_
 show W p S.b292 _ _ (retQ [.t 4] _)
 unfold S.b292
 have n0 := s0.len (by decide)
 have n1 := s1.len (by decide)
 by_cases hl : a.length = b.length
 ·have hl' : (a.length : Int) = b.length := by omega
  simp [n0, n1, hl, hl']
  refine W_loop (AlInv v0 v1 a b h) ?_ a.length ⟨0, by omega, by omega, rfl, rfl, rfl⟩
  rintro m e h' ⟨i, hi, rfl, rfl, rfl, ht⟩
  by_cases hia : i = a.length
  ·subst hia
   have : a = b := by rw [List.take_length] at ht; rw [ht, hl, List.take_length]
   simp [n0, this]
  ·have hlt : i < a.length := by omega
   have hlt2 : i < b.length := by omega
   have hlt' : (i : Int) < a.length := by omega
   obtain ⟨b0, o0, x1, x2, x3⟩ := readI_idx (k' := .i64) s0.ints hlt
   obtain ⟨b1, o1, y1, y2, y3⟩ := readI_idx (k' := .i64) s1.ints hlt2
   have hw : IntKind.i64.wrap ((i : Int) + 1) = ((i + 1 : Nat) : Int) := by
    simp [big] at ha
    rw [w64 (by omega) (by omega)]; omega
   by_cases he : a[i] = b[i]
   ·simp [n0, hlt', x1, x3, y1, y3, he, hw]
    refine ⟨a.length - (i + 1), by omega, i + 1, by omega, rfl, rfl, rfl, ?_⟩
    rw [← List.take_append_getElem hlt, ← List.take_append_getElem hlt2, ht, he]
   ·have hne : ¬ a = b := fun e => he (by subst e; rfl)
    simp [n0, hlt', x1, x3, y1, y3, he, hne]
 ·have hl' : ¬ (a.length : Int) = b.length := by omega
  have hne : ¬ a = b := fun e => hl (by rw [e])
  simp [n0, n1, hl, hl', hne]
abbrev OpenV := List Int × Int × Int
def openC : Cod OpenV where
 n := 3
 rep h P c x := ∃ v, c = [v, .int .i64 x.2.1, .int .i64 x.2.2] ∧ Sl (.int .i64) h P v x.1.reverse
 len := by rintro h P c x ⟨v, rfl, _⟩; rfl
 flat := by rintro h P c x ⟨v, rfl, s⟩; simp only [List.all_cons, List.all_nil, s.scalar]; rfl
 mono := by rintro h P Q c x ⟨v, rfl, s⟩ k; exact ⟨v, rfl, s.mono k⟩
 keep := by rintro h h' P S c x ⟨v, rfl, s⟩ k hS; exact ⟨v, rfl, s.keep k hS⟩
 lt := by rintro h P c x ⟨v, rfl, s⟩; exact ⟨v, rfl, s.lt⟩
structure RgH (h : Heap) (hv ov : CV) (l : List Int) (os : List OpenV) (h' : Heap) : Prop where
 k : Keep NoneOf h h'
 hs : Sl (.int .i64) h' (fun b => h.length ≤ b ∧ ov.blk ≠ some b) hv l.reverse
 ro : ∃ cells, Roomy h' 3 ov cells ∧ Rows openC h' (fun b => h.length ≤ b ∧ ov.blk ≠ some b) cells os.reverse
 bo : ∀ b, ov.blk = some b → h.length ≤ b
theorem RgH.on {h h1 h2 : Heap} {hv ov : CV} {l : List Int} {os : List OpenV} (q : RgH h hv ov l os h1) (k : Keep NoneOf h1 h2) : RgH h hv ov l os h2 := by
 obtain ⟨cells, r, rs⟩ := q.ro
 exact ⟨q.k.trans k, q.hs.on k, ⟨cells, r.keep k fun _ _ => id, rs.keep k fun _ _ => id⟩, q.bo⟩
theorem RgH.held {h h1 h2 : Heap} {hv hv' ov : CV} {l l' : List Int} {os : List OpenV} (q : RgH h hv ov l os h1) (k : Keep NoneOf h1 h2) (s : Sl (.int .i64) h2 (fun b => h1.length ≤ b) hv' l'.reverse) : RgH h hv' ov l' os h2 := by
 have q2 := q.on k
 obtain ⟨cells, r, rs⟩ := q.ro
 exact ⟨q2.k, s.mono fun b hb => ⟨by have := q.k.len; omega, fun e => by have := r.blk_lt e; omega⟩, q2.ro, q2.bo⟩
structure StH (os : List OpenV) (st : Int) (i : Nat) : Prop where
 s0 : 0 ≤ st
 w0 : ∀ q ∈ os, 0 ≤ q.2.2
 n : ∀ q ∈ os, 1 ≤ q.2.1 ∧ q.2.1 ≤ 32
 d : os.length ≤ 3
 le : potS (os.map Prod.snd) st ≤ i * 32768
theorem StH.st {os : List OpenV} {st : Int} {i : Nat} (q : StH os st i) : st ≤ i * 32768 :=
 Int.le_trans (potS_ge (os.map Prod.snd) q.s0 fun u hu => by obtain ⟨a, ha, rfl⟩ := List.mem_map.1 hu; exact q.w0 a ha) q.le
theorem StH.inc {os : List OpenV} {st : Int} {i : Nat} (q : StH os st i) : StH os (st + 1) (i + 1) := by
 refine ⟨by have := q.s0; omega, q.w0, q.n, q.d, ?_⟩
 have := potS_inc (os.map Prod.snd) st (by simpa using q.d)
 have := q.le
 omega
theorem StH.open {os : List OpenV} {st : Int} {i : Nat} {f : List Int} {n : Int} (q : StH os st i) (h3 : os.length < 3) (h0 : 1 ≤ n) (h1 : n ≤ 32) : StH ((f, n, st) :: os) 0 (i + 1) := by
 refine ⟨by omega, fun u hu => ?_, fun u hu => ?_, by simp; omega, ?_⟩
 ·rcases List.mem_cons.1 hu with rfl | hu
  ·exact q.s0
  ·exact q.w0 u hu
 ·rcases List.mem_cons.1 hu with rfl | hu
  ·exact ⟨h0, h1⟩
  ·exact q.n u hu
 ·have := q.le
  simp only [List.map_cons, potS]
  rw [show st + 32 * 0 = st by omega]
  omega
theorem StH.close {os : List OpenV} {u : OpenV} {st : Int} {i : Nat} (q : StH (u :: os) st i) : StH os (u.2.2 + u.2.1 * st) (i + 1) ∧ 0 ≤ u.2.1 * st ∧ u.2.1 * st ≤ 32 * (i * 32768) := by
 have hn := q.n u (by simp)
 have hw := q.w0 u (by simp)
 have hs := q.s0
 have hst := q.st
 have m0 : 0 ≤ u.2.1 * st := Int.mul_nonneg (by omega) hs
 have m1 : u.2.1 * st ≤ 32 * st := Int.mul_le_mul_of_nonneg_right hn.2 hs
 refine ⟨⟨by omega, fun v hv => q.w0 v (by simp [hv]), fun v hv => q.n v (by simp [hv]), by have := q.d; simp at this; omega, ?_⟩, m0, by omega⟩
 have := q.le
 simp only [List.map_cons, potS] at this
 have h2 := potS_mono (os.map Prod.snd) (a := u.2.2 + u.2.1 * st) (b := u.2.2 + 32 * st) (by omega)
 omega
theorem OV_copy {H : Heap} {l : List Int} {cc : List CV} {n : Nat} {P : Nat → Prop} {K : CV × Heap → Prop} (r : Rows (.int .i64) (H ++ [.arr [] .tight]) P cc l) (hn : n = l.length) (hl : l.length ≤ big)
  (kk : ∀ v1 h3, OwnL (.int .i64) h3 NoneOf v1 l → Keep NoneOf H h3 → (∀ b, v1.blk = some b → H.length ≤ b) → K (v1, h3)) : OV (appendTo (H ++ [.arr [] .tight]) 1 (.sl H.length 0 0 0) n cc) K := by
 have ow0 : OwnL (.int .i64) (H ++ [.arr [] .tight]) NoneOf (.sl H.length 0 0 0) [] := ⟨[], .inr ⟨H.length, 0, .tight, rfl, rfl, .inl rfl, by simp⟩, Rows.nil, fun b _ hn => hn⟩
 refine OV_pushes (e := .int .i64) (m := l) ow0 (rows_ints.2 (rows_ints.1 r)) hn (fun _ hb => hb.elim) (by simp) hl (by decide) ?_
 intro v1 h3 o1 k3 hb3
 refine kk v1 h3 (by simpa using o1) ((Keep.app NoneOf H [.arr [] .tight]).then k3 fun b hb e => by simp [CV.blk] at e; omega) fun b hb => ?_
 rcases hb3 b hb with g | g
 ·simp [CV.blk] at g; omega
 ·simp at g; omega
def RgA (v : CV) (l : List OpV) (h : Heap) (m : Nat) (e : Env) (h' : Heap) : Prop :=
 ∃ i : Nat, i ≤ l.length ∧ m = l.length - i ∧ e = [(0, v), (4, .int .i64 i)] ∧ Keep NoneOf h h' ∧ badP l 0 = badP (l.drop i) i
def RgB (v : CV) (l : List OpV) (h : Heap) (m : Nat) (e : Env) (h' : Heap) : Prop :=
 ∃ (i : Nat) (hv ov : CV) (s : List Int) (os : List OpenV) (st : Int), i ≤ l.length ∧ m = l.length - i ∧ e = [(0, v), (6, hv), (7, ov), (8, .int .i64 st), (9, .int .i64 i)] ∧ RgH h hv ov s os h' ∧
  orderP l ([], []) 0 = orderP (l.drop i) (s, os.map Prod.fst) i ∧ stepsGo l [] 0 = stepsGo (l.drop i) (os.map Prod.snd) st ∧ ordLe (s, os.map Prod.fst) i ∧ StH os st i
theorem refProg_spec (lp : LP p) {h : Heap} {v : CV} {l : List OpV} {P : Nat → Prop} (s : Sl opC h P v l) :
  WF p 282 [v] h fun r h' => r = .tup [.int .i64 (progP l).1, .int .i64 (progP l).2] ∧ Keep NoneOf h h' := by
 refine WF_of (by rw [lp.pg]; exact S.pg282) (lp.no ⟨rfl, rfl⟩) ?_
 show W p S.b282 _ _ (retQ [.t 2, .t 3] _)
 unfold S.b282
 have n0 := s.len (by decide)
 by_cases h48 : 48 < l.length
 ·have h48' : (48 : Int) < l.length := by omega
  simp [n0, h48', progP, h48]
  exact Keep.refl _ _
 have h48' : ¬ (48 : Int) < l.length := by omega
 simp [n0, h48']
 refine W_loop (RgA v l h) ?_ l.length ⟨0, by omega, by omega, rfl, Keep.refl _ _, rfl⟩
 rintro m e h1 ⟨i, hi, rfl, rfl, k1, hbad⟩
 have n1 := (s.on k1).len (by decide)
 by_cases hie : i = l.length
 ·subst hie
  rw [List.drop_length, badP] at hbad
  have hok := badP_none hbad
  have hpr : progP l = match orderP l ([], []) 0 with
    | .inl i => ((i : Int), 11)
    | .inr s => if s.2 ≠ [] ∨ s.1 ≠ [] then ((l.length : Int) - 1, 11) else if 512 < stepsP l then (0, 4) else (0, 0) := by
   unfold progP
   rw [if_neg h48, hbad]
   cases orderP l ([], []) 0 <;> rfl
  simp [n1]
  refine W_loop (RgB v l h) ?_ l.length ⟨0, .nils, .nils, [], [], 0, by omega, by omega, rfl, ⟨k1, Sl.nil, ⟨[], .inl ⟨rfl, rfl⟩, Rows.nil⟩, by simp [CV.blk]⟩, rfl, rfl, ⟨by simp, by simp, by simp⟩, ⟨by omega, by simp, by simp, by simp, by simp [potS]⟩⟩
  rintro m e h2 ⟨i, hv, ov, sl, os, st, hi, rfl, rfl, q, hor, hst, hle, sth⟩
  have n2 := (s.on q.k).len (by decide)
  obtain ⟨cells, rr, rs⟩ := q.ro
  have hcl : cells.length = os.length * 3 := by have := rs.1; simpa [openC] using this
  have no := rr.read.len (by decide)
  rw [hcl, Nat.mul_div_cancel _ (by decide)] at no
  have nh := q.hs.len (by decide)
  rw [List.length_reverse] at nh
  have hst' := sth.st
  have hs0 := sth.s0
  by_cases hie : i = l.length
  ·subst hie
   rw [List.drop_length, orderP] at hor
   rw [List.drop_length, stepsGo] at hst
   rw [hor] at hpr
   simp only [] at hpr
   have w1 : IntKind.i64.wrap ((l.length : Int) - 1) = (l.length : Int) - 1 := wrap_in _ (by omega) (by omega)
   by_cases e2 : os = []
   ·by_cases e1 : sl = []
    ·rw [if_neg (by simp [e1, e2])] at hpr
     have he := steps_eq hor (by simp [e2])
     rw [← he, hst] at hpr
     by_cases h5 : 512 < st
     ·rw [if_pos h5] at hpr
      simp [n2, no, nh, e1, e2, h5, hpr]
      exact q.k
     ·rw [if_neg h5] at hpr
      simp [n2, no, nh, e1, e2, h5, hpr]
      exact q.k
    ·rw [if_pos (.inr e1)] at hpr
     have z2 : 0 < sl.length := List.length_pos_iff.2 e1
     have z2' : (0 : Int) < sl.length := by omega
     simp [n2, no, nh, e2, z2, z2', w1, hpr]
     exact q.k
   ·rw [if_pos (.inl (by simpa using e2))] at hpr
    have z1 : 0 < os.length := List.length_pos_iff.2 e2
    have z1' : (0 : Int) < os.length := by omega
    simp [n2, no, nh, z1, z1', w1, hpr]
    exact q.k
  ·have hlt : i < l.length := by omega
   have hlt' : (i : Int) < l.length := by omega
   have hw : IntKind.i64.wrap ((i : Int) + 1) = ((i + 1 : Nat) : Int) := by rw [w64 (by omega) (by omega)]; omega
   obtain ⟨bb, ob, row, x1, x2, x3, x4⟩ := (s.on q.k).row (k := .i64) (by decide) hlt
   have hrl := opC.len x4
   have hfl := opC.flat x4
   have hro := opC.on x4 (Keep.app NoneOf h2 [.arr row .tight])
   obtain ⟨cv, hC, sc⟩ := x4
   have c0 : row[0]? = some (.int .i64 l[i].kind) := by subst hC; rfl
   have c1 : row[1]? = some (.int .i64 l[i].n) := by subst hC; rfl
   clear hC sc
   simp only [opC] at hrl x1 x2
   have x2' : loadAt h2 bb ob (some 5) = some (.agg row) := x2
   have st5 := store_new (h := h2) (row := row) (z := [.int .i64 0, .int .i64 0, .int .i64 0, .int .i64 0, .nils]) hrl hfl
   have gO : (h2 ++ [.arr row .tight])[h2.length]? = some (.arr row .tight) := get_new
   have lO := ld gO
   have lOw := ldw gO hrl
   have ff : fits (some 5) (.agg row) = true := by simp [hrl]
   have q1 := q.on (Keep.app NoneOf h2 [.arr row .tight])
   have hfit := opFit_of (hok _ (List.getElem_mem hlt))
   rw [List.drop_eq_getElem_cons hlt] at hor hst
   simp only [orderP] at hor
   have hw1 : IntKind.i64.wrap (st + 1) = st + 1 := wrap_in _ (by omega) (by omega)
   obtain ⟨cells1, rr1, rs1⟩ := q1.ro
   have hcl1 : cells1.length = os.length * 3 := by have := rs1.1; simpa [openC] using this
   have no1 := rr1.read.len (by decide)
   rw [hcl1, Nat.mul_div_cancel _ (by decide)] at no1
   have nh1 := q1.hs.len (by decide)
   rw [List.length_reverse] at nh1
   have wo : IntKind.i64.wrap ((os.length : Int) - 1) = (os.length : Int) - 1 := wrap_in _ (by omega) (by have := sth.d; omega)
   have wl : IntKind.i64.wrap ((sl.length : Int) - 1) = (sl.length : Int) - 1 := wrap_in _ (by omega) (by have := hle.1; simp at this; omega)
   generalize hH : h2 ++ [Obj.arr row .tight] = H at *
   have bad : takeP (sl, os.map Prod.fst) l[i] = none → progP l = ((i : Int), 11) := fun ht => by
    rw [ht] at hor
    simp only [] at hor
    rw [hor] at hpr
    exact hpr
   have good : ∀ s2, takeP (sl, os.map Prod.fst) l[i] = some s2 → orderP l ([], []) 0 = orderP (l.drop (i + 1)) s2 (i + 1) ∧ ordLe s2 (i + 1) := fun s2 ht => by
    rw [ht] at hor
    exact ⟨hor, take_le ht hle⟩
   by_cases k8 : l[i].kind = 8
   ·have hT : takeP (sl, os.map Prod.fst) l[i] = if os.length < 3 then some (sl, sl :: os.map Prod.fst) else none := by
     unfold takeP
     rw [if_pos k8]
     simp
    by_cases h3' : os.length < 3
    ·have h3i : ¬ (3 : Int) ≤ os.length := by omega
     rw [if_pos h3'] at hT
     obtain ⟨hor2, hle2⟩ := good _ hT
     have hsc := q1.hs.scalar
     simp [n2, hlt', x1, x2', st5, ff, hH, lO, c0, c1, k8, no1, h3i, h3', fillC, splice, spread, cellsAt, CV.cells_scalar hsc, hsc]
     have hS : stepsGo (l[i] :: l.drop (i + 1)) (os.map Prod.snd) st = stepsGo (l.drop (i + 1)) (((sl, l[i].n, st) :: os).map Prod.snd) 0 := by simp only [stepsGo, if_pos k8, List.map_cons]
     rw [hS] at hst
     have q3 := q1.on (Keep.app NoneOf H [.arr [hv, .int .i64 l[i].n, .int .i64 st] .tight])
     generalize H ++ [Obj.arr [hv, .int .i64 l[i].n, .int .i64 st] .tight] = h3 at *
     obtain ⟨cells3, rr3, rs3⟩ := q3.ro
     have hcl3 : cells3.length = os.length * 3 := by have := rs3.1; simpa [openC] using this
     refine OV_room rr3 (n := os.length) hcl3 rfl (by simp [hsc]) (by simp [big]; omega) (by simp [big]) (by decide) ?_
     intro v' h4 r4 k4 hb4
     have hs4 : Sl (.int .i64) h4 (fun b => h.length ≤ b ∧ v'.blk ≠ some b) hv sl.reverse := by
      refine (q3.hs.lt.keep k4 fun b hb e => hb.1.2 e).mono fun b hb => ⟨hb.1.1, fun e => ?_⟩
      rcases hb4 b e with g | g
      ·exact hb.1.2 g
      ·omega
     simp [hw]
     refine ⟨l.length - (i + 1), by omega, i + 1, hv, v', sl, (sl, l[i].n, st) :: os, 0, by omega, rfl, rfl, ⟨q3.k.then k4 fun b hb e => by have := q3.bo b e; omega, hs4, ⟨cells3 ++ [hv, .int .i64 l[i].n, .int .i64 st], r4, ?_⟩, fun b hb => ?_⟩, hor2, hst, hle2, sth.open h3' (hfit.1 k8).1 (hfit.1 k8).2⟩
     ·rw [List.reverse_cons]
      refine Rows.append ?_ (Rows.one (e := openC) ⟨hv, rfl, hs4⟩)
      refine (rs3.lt.keep k4 fun b hb e => hb.1.2 e).mono fun b hb => ⟨hb.1.1, fun e => ?_⟩
      rcases hb4 b e with g | g
      ·exact hb.1.2 g
      ·omega
     ·rcases hb4 b hb with g | g
      ·exact q3.bo b g
      ·have := q3.k.len; omega
    ·have h3i : (3 : Int) ≤ os.length := by omega
     rw [if_neg h3'] at hT
     have hb2 := bad hT
     simp [n2, hlt', x1, x2', st5, ff, hH, lO, c0, c1, k8, no1, h3i, h3', hb2]
     exact q1.k
   by_cases k9 : l[i].kind = 9
   ·by_cases e2 : os = []
    ·have hT : takeP (sl, os.map Prod.fst) l[i] = none := by
      unfold takeP
      rw [if_neg k8, if_pos k9, e2]
      rfl
     have hb2 := bad hT
     have z : os.length = 0 := by rw [e2]; rfl
     simp [n2, hlt', x1, x2', st5, ff, hH, lO, c0, c1, k8, k9, no1, z, hb2]
     exact q1.k
    ·obtain ⟨u, us, hos⟩ := List.exists_cons_of_ne_nil e2
     have z : ¬ os.length = 0 := by rw [hos]; simp
     have z' : ¬ (os.length : Int) = 0 := by omega
     have hlast : (os.length : Int) - 1 = (us.length : Int) := by rw [hos]; simp
     have sO : Sl openC H (fun _ => True) ov os.reverse := ⟨cells1, rr1.read, ⟨rr1.ok, fun _ _ => trivial⟩, rs1.mono fun _ _ => trivial⟩
     have hltO : us.length < os.reverse.length := by rw [hos]; simp
     obtain ⟨b3, o3, row3, y1, y2, y3, hv3, hrow3, s3⟩ := sO.row (k := .i64) (by decide) hltO
     have hel : os.reverse[us.length] = u := by simp [hos]
     rw [hel] at hrow3 s3
     subst hrow3
     have y30 := y3 0 (by decide)
     simp at y30
     simp only [openC] at y1 y2
     rw [← hlast] at y1
     obtain ⟨ov', cut, rc, bc⟩ := rr1.cut (by decide) (k := .i64) (m := us.length) (by rw [hcl1, hos]; simp; omega)
     rw [← hlast] at cut
     have hT : takeP (sl, os.map Prod.fst) l[i] = if u.1 = sl then some (sl, us.map Prod.fst) else none := by
      unfold takeP
      rw [if_neg k8, if_pos k9, hos]
      rfl
     by_cases hu : u.1 = sl
     ·rw [if_pos hu] at hT
      obtain ⟨hor2, hle2⟩ := good _ hT
      simp [n2, hlt', x1, x2', st5, ff, hH, lO, c0, c1, k8, k9, no1, z, z', wo, y1, y30]
      refine (alike_spec (by rw [lp.pg]; exact S.pg292) (lp.no ⟨rfl, rfl⟩) s3 q1.hs (by rw [hu, List.length_reverse]; have := hle.1; simp at this; simp [big]; omega)).mono ?_
      rintro r hh ⟨rfl, rfl⟩
      have hS : stepsGo (l[i] :: l.drop (i + 1)) (os.map Prod.snd) st = stepsGo (l.drop (i + 1)) (us.map Prod.snd) (u.2.2 + u.2.1 * st) := by rw [hos]; simp only [stepsGo, if_neg k8, if_pos k9, List.map_cons]
      rw [hS] at hst
      have q3 := q1.on (Keep.app NoneOf hh [.arr [hv3, .int .i64 u.2.1, .int .i64 u.2.2] .tight])
      have st3 := store_new (h := hh) (row := [hv3, .int .i64 u.2.1, .int .i64 u.2.2]) (z := [.nils, .int .i64 0, .int .i64 0]) rfl (by simp [s3.scalar])
      have lN := ld (get_new (h := hh) (o := .arr [hv3, .int .i64 u.2.1, .int .i64 u.2.2] .tight))
      obtain ⟨cells3, rr3, rs3⟩ := q3.ro
      have hcl3 : cells3.length = os.length * 3 := by have := rs3.1; simpa [openC] using this
      have no3 := rr3.read.len (by decide)
      rw [hcl3, Nat.mul_div_cancel _ (by decide)] at no3
      obtain ⟨ov2, cut3, rc3, bc3⟩ := rr3.cut (by decide) (k := .i64) (m := us.length) (by rw [hcl3, hos]; simp; omega)
      rw [← hlast] at cut3
      have scl := (show StH (u :: us) st i by rw [← hos]; exact sth).close
      have hu2 := sth.w0 u (by rw [hos]; simp)
      have hpot := scl.1.st
      have wm : IntKind.i64.wrap (u.2.1 * st) = u.2.1 * st := wrap_in _ (by omega) (by omega)
      have wa : IntKind.i64.wrap (u.2.2 + u.2.1 * st) = u.2.2 + u.2.1 * st := wrap_in _ (by omega) (by omega)
      simp [hu, no1, wo, y1, y2, st3, no3, cut3, lN, wm, wa, hw]
      refine ⟨l.length - (i + 1), by omega, i + 1, hv, ov2, sl, us, u.2.2 + u.2.1 * st, by omega, rfl, rfl, ⟨q3.k, q3.hs.mono fun b hb => by rw [bc3]; exact hb, ⟨_, rc3, ?_⟩, fun b hb => q3.bo b (by rw [← bc3]; exact hb)⟩, hor2, hst, hle2, scl.1⟩
      have := rs3.take (m := us.length) (by rw [hos]; simp)
      have e : os.reverse.take us.length = us.reverse := by
       rw [hos, List.reverse_cons]
       exact List.take_left' (by simp)
      rw [e] at this
      exact this.mono fun b hb => by rw [bc3]; exact hb
     ·rw [if_neg hu] at hT
      have hb2 := bad hT
      simp [n2, hlt', x1, x2', st5, ff, hH, lO, c0, c1, k8, k9, no1, z, z', wo, y1, y30]
      refine (alike_spec (by rw [lp.pg]; exact S.pg292) (lp.no ⟨rfl, rfl⟩) s3 q1.hs (by
       have := hle.2.2 u.1 (by rw [hos]; simp)
       rw [List.length_reverse]; simp [big]; omega)).mono ?_
      rintro r hh ⟨rfl, rfl⟩
      simp [hu, hb2]
      exact q1.k
   have hS : stepsGo (l[i] :: l.drop (i + 1)) (os.map Prod.snd) st = stepsGo (l.drop (i + 1)) (os.map Prod.snd) (st + 1) := by simp only [stepsGo, if_neg k8, if_neg k9]
   rw [hS] at hst
   have hnil : fillC [] [] = some [] := rfl
   have hll := hle.1
   simp only [] at hll
   by_cases k2 : l[i].kind = 2
   ·obtain ⟨cc, e1, r1⟩ := (q1.hs.on (Keep.app NoneOf H [.arr [] .tight])).spread (by decide)
    have e1' : spread (H ++ [.arr [] .tight]) 1 hv = some (sl.length, cc) := by simpa [Cod.int] using e1
    have done : ∀ {m : Nat}, takeP (sl, os.map Prod.fst) l[i] = some (l[i].n :: sl, os.map Prod.fst) → ∀ (v1 : CV) (h3 : Heap), OwnL (.int .i64) h3 NoneOf v1 sl.reverse → Keep NoneOf H h3 → (∀ b, v1.blk = some b → H.length ≤ b) →
      OV (appendTo (h3 ++ [.arr [.int .i64 l[i].n] .tight]) 1 v1 1 [.int .i64 l[i].n]) fun r => ∃ m', m' < l.length - i ∧ RgB v l h m' [(0, v), (6, r.fst), (7, ov), (8, .int .i64 (st + 1)), (9, .int .i64 ((i : Int) + 1))] r.snd := by
     intro _ hT v1 h3 o1 k3 hb3
     obtain ⟨hor2, hle2⟩ := good _ hT
     refine OV_push (e := .int .i64) (x := l[i].n) (o1.on (Keep.app NoneOf h3 [.arr [.int .i64 l[i].n] .tight])) rfl (fun _ e => e.elim) (by simp [big]; omega) (by decide) ?_
     intro v2 h4 o2 k4 hb4
     have k5 : Keep NoneOf H (h3 ++ [.arr [.int .i64 l[i].n] .tight]) := k3.trans (Keep.app _ _ _)
     have hb5 : ∀ b, v2.blk = some b → H.length ≤ b := fun b hb => by
      rcases hb4 b hb with g | g
      ·exact hb3 b g
      ·have := k3.len; simp at g; omega
     refine ⟨l.length - (i + 1), by omega, i + 1, v2, ov, l[i].n :: sl, os, st + 1, by omega, rfl, rfl, q1.held (k5.then k4 fun b hb e => by have := hb3 b e; omega) ?_, hor2, hst, hle2, sth.inc⟩
     rw [List.reverse_cons]
     exact (OwnL.sl o2).mono fun b hb => by
      rcases hb with hb | hb
      ·exact hb.elim
      ·exact hb5 b hb
    by_cases e1 : sl = []
    ·have hT : takeP (sl, os.map Prod.fst) l[i] = some (l[i].n :: sl, os.map Prod.fst) := by
      unfold takeP
      rw [if_neg k8, if_neg k9, if_pos k2, e1]
     have z : ¬ 0 < sl.length := by rw [e1]; simp
     have z' : ¬ (0 : Int) < sl.length := by omega
     simp [n2, hlt', x1, x2', st5, ff, hH, lO, c0, c1, k8, k9, k2, nh1, z, z', hnil, e1', fillC, splice]
     refine OV_copy r1 (by simp) (by simp [big]; omega) fun v1 h3 o1 k3 hb3 => ?_
     simp [spread, cellsAt, hw1, hw]
     exact done (m := 0) hT v1 h3 o1 k3 hb3
    ·obtain ⟨x, t, hsl⟩ := List.exists_cons_of_ne_nil e1
     have z : 0 < sl.length := by rw [hsl]; simp
     have z' : (0 : Int) < sl.length := by omega
     have hlast : (sl.length : Int) - 1 = (t.length : Int) := by rw [hsl]; simp
     have hltT : t.length < sl.reverse.length := by rw [hsl]; simp
     obtain ⟨b4, o4, y1, y2, y3⟩ := readI_idx (k' := .i64) q1.hs.ints hltT
     have hel : sl.reverse[t.length] = x := by simp [hsl]
     rw [hel] at y3
     rw [← hlast] at y1
     have hTT : takeP (sl, os.map Prod.fst) l[i] = if l[i].n ≤ x then none else some (l[i].n :: sl, os.map Prod.fst) := by
      unfold takeP
      rw [if_neg k8, if_neg k9, if_pos k2, hsl]
     by_cases hx : l[i].n ≤ x
     ·rw [if_pos hx] at hTT
      have hb2 := bad hTT
      simp [n2, hlt', x1, x2', st5, ff, hH, lO, c0, c1, k8, k9, k2, nh1, z, z', wl, y1, y3, hx, hb2]
      exact q1.k
     ·rw [if_neg hx] at hTT
      simp [n2, hlt', x1, x2', st5, ff, hH, lO, c0, c1, k8, k9, k2, nh1, z, z', wl, y1, y3, hx, hnil, e1', fillC, splice]
      refine OV_copy r1 (by simp) (by simp [big]; omega) fun v1 h3 o1 k3 hb3 => ?_
      simp [spread, cellsAt, hw1, hw]
      exact done (m := 0) hTT v1 h3 o1 k3 hb3
   by_cases k3 : l[i].kind = 3
   ·by_cases e1 : sl = []
    ·have hT : takeP (sl, os.map Prod.fst) l[i] = none := by
      unfold takeP
      rw [if_neg k8, if_neg k9, if_neg k2, if_pos k3, e1]
     have hb2 := bad hT
     have z : sl.length = 0 := by rw [e1]; rfl
     simp [n2, hlt', x1, x2', st5, ff, hH, lO, c0, c1, k8, k9, k2, k3, nh1, z, hb2]
     exact q1.k
    ·obtain ⟨x, t, hsl⟩ := List.exists_cons_of_ne_nil e1
     have z : ¬ sl.length = 0 := by rw [hsl]; simp
     have z' : ¬ (sl.length : Int) = 0 := by omega
     have hlast : (sl.length : Int) - 1 = (t.length : Int) := by rw [hsl]; simp
     have hltT : t.length < sl.reverse.length := by rw [hsl]; simp
     obtain ⟨b4, o4, y1, y2, y3⟩ := readI_idx (k' := .i64) q1.hs.ints hltT
     have hel : sl.reverse[t.length] = x := by simp [hsl]
     rw [hel] at y3
     rw [← hlast] at y1
     have hTT : takeP (sl, os.map Prod.fst) l[i] = if x = l[i].n then some (t, os.map Prod.fst) else none := by
      unfold takeP
      rw [if_neg k8, if_neg k9, if_neg k2, if_pos k3, hsl]
     by_cases hx : x = l[i].n
     ·rw [if_pos hx] at hTT
      obtain ⟨hor2, hle2⟩ := good _ hTT
      have q3 := q1.on (Keep.app NoneOf H [.arr [] .tight])
      have nh3 := q3.hs.len (by decide)
      rw [List.length_reverse] at nh3
      obtain ⟨cv', cut, sc'⟩ := q3.hs.cut (by decide) (k := .i64) (m := t.length) (by rw [hsl]; simp)
      have ht' : sl.reverse.take t.length = t.reverse := by
       rw [hsl, List.reverse_cons]
       exact List.take_left' (by simp)
      rw [ht'] at sc'
      rw [← hlast] at cut
      have cut' : slSl (H ++ [.arr [] .tight]) 1 hv none (some (.int .i64 ((sl.length : Int) - 1))) = some (cv', H ++ [.arr [] .tight]) := cut
      obtain ⟨cc, e1, r1⟩ := sc'.spread (by decide)
      have e1' : spread (H ++ [.arr [] .tight]) 1 cv' = some (t.length, cc) := by simpa [Cod.int] using e1
      simp [n2, hlt', x1, x2', st5, ff, hH, lO, c0, c1, k8, k9, k2, k3, nh1, nh3, z, z', wl, y1, y3, hx, hnil, cut', e1', fillC, splice]
      refine OV_copy r1 (by simp) (by have := congrArg List.length hsl; simp at this; simp [big]; omega) fun v1 h3 o1 k4 hb3 => ?_
      simp [hw1, hw]
      refine ⟨l.length - (i + 1), by omega, i + 1, v1, ov, t, os, st + 1, by omega, rfl, rfl, q1.held k4 ((OwnL.sl o1).mono fun b hb => ?_), hor2, hst, hle2, sth.inc⟩
      rcases hb with hb | hb
      ·exact hb.elim
      ·exact hb3 b hb
     ·rw [if_neg hx] at hTT
      have hb2 := bad hTT
      simp [n2, hlt', x1, x2', st5, ff, hH, lO, c0, c1, k8, k9, k2, k3, nh1, z, z', wl, y1, y3, hx, hb2]
      exact q1.k
   have hT : takeP (sl, os.map Prod.fst) l[i] = if waitsP l[i] = true ∧ sl ≠ [] then none else some (sl, os.map Prod.fst) := by
    unfold takeP
    rw [if_neg k8, if_neg k9, if_neg k2, if_neg k3]
   by_cases kw : l[i].kind = 4 ∨ l[i].kind = 5 ∨ l[i].kind = 7
   ·rcases kw with kw | kw | kw <;>
    ·simp [n2, hlt', x1, x2', st5, ff, hH, lO, lOw, c0, c1, k8, k9, k2, k3, kw]
     refine (refOpWaits_spec lp hro).mono ?_
     rintro r h3 ⟨rfl, k4⟩
     have q3 := q1.on k4
     have nh3 := q3.hs.len (by decide)
     rw [List.length_reverse] at nh3
     by_cases hwt : waitsP l[i] = true
     ·by_cases e1 : sl = []
      ·rw [if_neg (by simp [e1])] at hT
       obtain ⟨hor2, hle2⟩ := good _ hT
       have z : ¬ 0 < sl.length := by rw [e1]; simp
       have z' : ¬ (0 : Int) < sl.length := by omega
       simp [hwt, nh3, z, z', hw1, hw]
       exact ⟨l.length - (i + 1), by omega, i + 1, hv, ov, sl, os, st + 1, by omega, rfl, rfl, q3, hor2, hst, hle2, sth.inc⟩
      ·rw [if_pos ⟨hwt, e1⟩] at hT
       have hb2 := bad hT
       have z : 0 < sl.length := List.length_pos_iff.2 e1
       have z' : (0 : Int) < sl.length := by omega
       simp [hwt, nh3, z, z', hb2]
       exact q3.k
     ·have hwt : waitsP l[i] = false := by simpa using hwt
      rw [if_neg (by simp [hwt])] at hT
      obtain ⟨hor2, hle2⟩ := good _ hT
      simp [hwt, hw1, hw]
      exact ⟨l.length - (i + 1), by omega, i + 1, hv, ov, sl, os, st + 1, by omega, rfl, rfl, q3, hor2, hst, hle2, sth.inc⟩
   ·have k4 : ¬ l[i].kind = 4 := by omega
    have k5 : ¬ l[i].kind = 5 := by omega
    have k7 : ¬ l[i].kind = 7 := by omega
    have hwt : waitsP l[i] = false := by simp [waitsP, isWait, k4, k5, k7]
    rw [if_neg (by simp [hwt])] at hT
    obtain ⟨hor2, hle2⟩ := good _ hT
    simp [n2, hlt', x1, x2', st5, ff, hH, lO, c0, c1, k8, k9, k2, k3, k4, k5, k7, hw1, hw]
    exact ⟨l.length - (i + 1), by omega, i + 1, hv, ov, sl, os, st + 1, by omega, rfl, rfl, q1, hor2, hst, hle2, sth.inc⟩
 ·have hlt : i < l.length := by omega
  have hlt' : (i : Int) < l.length := by omega
  have hw : IntKind.i64.wrap ((i : Int) + 1) = ((i + 1 : Nat) : Int) := by rw [w64 (by omega) (by omega)]; omega
  obtain ⟨bb, ob, row, x1, x2, x3, x4⟩ := (s.on k1).row (k := .i64) (by decide) hlt
  have hrl := opC.len x4
  simp only [opC] at hrl x1 x2
  have x2' : loadAt h1 bb ob (some 5) = some (.agg row) := x2
  simp [n1, hlt', x1, x2']
  refine (refOpCheck_spec lp x4).mono ?_
  rintro r h2 ⟨rfl, k2⟩
  have K2 := k1.trans k2
  rw [List.drop_eq_getElem_cons hlt, badP] at hbad
  by_cases ho : opCheckP l[i] = 0
  ·rw [if_pos ho] at hbad
   simp [ho, hw]
   exact ⟨l.length - (i + 1), by omega, i + 1, by omega, rfl, rfl, K2, hbad⟩
  ·rw [if_neg ho] at hbad
   have hpr : progP l = ((i : Int), opCheckP l[i]) := by
    unfold progP
    rw [if_neg h48, hbad]
   simp [ho, hpr]
   exact K2
theorem Sl.mid {α : Type} {e : Cod α} {h : Heap} {P : Nat → Prop} {v : CV} {l : List α} (s : Sl e h P v l) (he : 0 < e.n) {k k' : IntKind} {m t : Nat} (hmt : m ≤ t) (ht : t < l.length) :
  ∃ v', slSl h e.n v (some (.int k (m : Int))) (some (.int k' (t : Int))) = some (v', h) ∧ Sl e h P v' ((l.take t).drop m) := by
 obtain ⟨c, r, ⟨ok, q⟩, rs⟩ := s
 rcases r with ⟨rfl, rfl⟩ | ⟨b, o, n, cap, cs, st, rfl, h1, h2, h3, h4⟩
 ·have h0 : l.length * e.n = 0 := by rw [← rs.1]; rfl
  rcases Nat.mul_eq_zero.1 h0 with h0 | h0
  ·omega
  ·omega
 ·have hok : n ≤ cap := ok
  have hln : l.length = n := Nat.eq_of_mul_eq_mul_right he (rs.1.symm.trans h1)
  have e2 : bound (some (.int k' (t : Int))) n cap = some t := by
   simp only [bound]
   rw [if_pos ⟨by omega, by omega⟩]
   simp
  have e1 : bound (some (.int k (m : Int))) 0 t = some m := by
   simp only [bound]
   rw [if_pos ⟨by omega, by omega⟩]
   simp
  refine ⟨.sl b (o + m * e.n) (t - m) (cap - m), ?_, (c.take (t * e.n)).drop (m * e.n), .inr ⟨b, o + m * e.n, t - m, cap - m, cs, st, rfl, ?_, h2, ?_, ?_⟩, ⟨show t - m ≤ cap - m by omega, fun b' hb => q b' hb⟩, (rs.take (by omega)).drop m⟩
  ·simp only [slSl]
   rw [if_neg (by omega), e2]
   simp only []
   rw [e1]
   simp only []
   rw [if_neg (by omega)]
  ·rw [List.length_drop, List.length_take, h1, Nat.sub_mul, Nat.min_eq_left (Nat.mul_le_mul_right _ (by omega))]
  ·have a : (t - m) * e.n = t * e.n - m * e.n := Nat.sub_mul _ _ _
   have b1 : m * e.n ≤ t * e.n := Nat.mul_le_mul_right _ hmt
   have b2 : t * e.n ≤ n * e.n := Nat.mul_le_mul_right _ (by omega)
   omega
  ·have b2 : t * e.n ≤ n * e.n := Nat.mul_le_mul_right _ (by omega)
   rw [h4, List.take_take, Nat.min_eq_left b2, List.drop_take, List.drop_drop, Nat.sub_mul]
theorem opRow {h : Heap} {v : CV} {l : List OpV} {P : Nat → Prop} (s : Sl opC h P v l) {i : Nat} (hi : i < l.length) :
  ∃ b o row, idxAddrV 5 v (.int .i64 (i : Int)) = some (.ptr b o) ∧ loadAt h b o (some 5) = some (.agg row) ∧ loadAt h b o none = some (.int .i64 l[i].kind) ∧ loadAt h b (o + 1) none = some (.int .i64 l[i].n) ∧ opC.rep h P row l[i] ∧ row.length = 5 := by
 obtain ⟨bb, ob, row, x1, x2, x3, x4⟩ := s.row (k := .i64) (by decide) hi
 have hrl := opC.len x4
 have y0 := x3 0 (by decide)
 have y1 := x3 1 (by decide)
 have hx4 := x4
 obtain ⟨cv, hC, sc⟩ := x4
 refine ⟨bb, ob, row, x1, x2, ?_, ?_, hx4, hrl⟩
 ·rw [Nat.add_zero] at y0
  rw [y0, hC]; rfl
 ·rw [y1, hC]; rfl
def MaInv (v : CV) (l : List OpV) (at' : Nat) (h : Heap) (m : Nat) (e : Env) (h' : Heap) : Prop :=
 ∃ (i : Nat) (d : Int), i ≤ l.length ∧ m = l.length - i ∧ e = [(0, v), (5, .int .i64 d), (6, .int .i64 i)] ∧ h' = h ∧ scanP (l.drop at') 0 at' = scanP (l.drop i) d i ∧ -(i : Int) ≤ d ∧ d ≤ i
theorem refMatch_spec (lp : LP p) {h : Heap} {v : CV} {l : List OpV} {P : Nat → Prop} (s : Sl opC h P v l) (hl : l.length ≤ 1000) {a : Nat} (ha : a < l.length) (hk : l[a].kind = 8) {j : Nat} (hj : scanP (l.drop a) 0 a = some j) :
  WF p 300 [v, .int .i64 (a : Int)] h fun r h' => r = .int .i64 (j : Int) ∧ h' = h := by
 refine WF_of (by rw [lp.pg]; exact S.pg300) (lp.no ⟨rfl, rfl⟩) ?_
 show W p S.b300 _ _ (retQ [.t 4] _)
 unfold S.b300
 have n0 := s.len (by decide)
 have c1 : ¬ (a : Int) < 0 := by omega
 have c2 : ¬ (l.length : Int) ≤ a := by omega
 have c2' : ¬ l.length ≤ a := by omega
 obtain ⟨b0, o0, row0, x1, x2, x3, x4, _, _⟩ := opRow s ha
 simp [n0, c1, c2, c2', x1, x3, hk]
 refine W_loop (MaInv v l a h) ?_ (l.length - a) ⟨a, 0, by omega, rfl, rfl, rfl, rfl, by omega, by omega⟩
 rintro m e h' ⟨i, d, hi, rfl, rfl, rfl, hs, hd0, hd1⟩
 by_cases hie : i = l.length
 ·subst hie
  rw [List.drop_length, scanP, hj] at hs
  cases hs
 ·have hlt : i < l.length := by omega
  have hlt' : (i : Int) < l.length := by omega
  have hw : IntKind.i64.wrap ((i : Int) + 1) = ((i + 1 : Nat) : Int) := by rw [w64 (by omega) (by omega)]; omega
  obtain ⟨b1, o1, row1, y1, y2, y3, y4, _, _⟩ := opRow s hlt
  have w1 : IntKind.i64.wrap (d + 1) = d + 1 := wrap_in _ (by omega) (by omega)
  have w2 : IntKind.i64.wrap (d - 1) = d - 1 := wrap_in _ (by omega) (by omega)
  rw [List.drop_eq_getElem_cons hlt, scanP] at hs
  by_cases k8 : l[i].kind = 8
  ·rw [if_pos k8] at hs
   simp [n0, hlt', y1, y3, k8, w1, hw]
   exact ⟨l.length - (i + 1), by omega, i + 1, d + 1, by omega, rfl, rfl, rfl, hs, by omega, by omega⟩
  ·rw [if_neg k8] at hs
   by_cases k9 : l[i].kind = 9
   ·rw [if_pos k9] at hs
    by_cases hz : d - 1 = 0
    ·rw [if_pos hz, hj] at hs
     have hji : j = i := Option.some.inj hs
     have wz : IntKind.i64.wrap 0 = 0 := rfl
     simp [n0, hlt', y1, y3, k8, k9, w2, hz, wz, hji]
    ·rw [if_neg hz] at hs
     simp [n0, hlt', y1, y3, k8, k9, w2, hz, hw]
     exact ⟨l.length - (i + 1), by omega, i + 1, d - 1, by omega, rfl, rfl, rfl, hs, by omega, by omega⟩
   ·rw [if_neg k9] at hs
    simp [n0, hlt', y1, y3, k8, k9, hw]
    exact ⟨l.length - (i + 1), by omega, i + 1, d, by omega, rfl, rfl, rfl, hs, by omega, by omega⟩
def Fo.size : Fo → Nat
 | .nil => 0
 | .op _ r => r.size + 1
 | .loop _ b _ r => b.size + r.size + 1
def FlatQ (h : Heap) (P : Nat → Prop) (l : List OpV) (r : CV) (h' : Heap) : Prop :=
 OwnL opC h' (fun b => P b ∧ b < h.length) r l ∧ (∀ b, r.blk = some b → h.length ≤ b) ∧ Keep NoneOf h h'
def FaI (M : Nat) (v : CV) (l fl : List OpV) (h : Heap) (P : Nat → Prop) (m : Nat) (e : Env) (h' : Heap) : Prop :=
 ∃ (g : Fo) (ov : CV) (done : List OpV) (i : Nat), g.wf ∧ g.size ≤ M ∧ i ≤ l.length ∧ m = l.length - i ∧ l.drop i = g.tok ∧ fl = done ++ g.flat ∧ e = [(0, v), (3, ov), (4, .int .i64 i)] ∧ FlatQ h P done ov h'
def FbI (v bv : CV) (n : Int) (i j : Nat) (done body : List OpV) (h : Heap) (P : Nat → Prop) (h1 : Heap) (m : Nat) (e : Env) (h' : Heap) : Prop :=
 ∃ (k : Nat) (ov : CV), (k : Int) ≤ n ∧ m = (n - k).toNat ∧ e = [(0, v), (3, ov), (4, .int .i64 i), (5, .int .i64 j), (6, bv), (7, .int .i64 k)] ∧ FlatQ h P (done ++ (List.replicate k body).flatten) ov h' ∧
  OwnL opC h' (fun b => P b ∧ b < h.length) bv body ∧ (∀ b, bv.blk = some b → h.length ≤ b) ∧ ∀ b, bv.blk = some b → ov.blk ≠ some b
theorem FlatQ.on {h : Heap} {P : Nat → Prop} {l : List OpV} {r : CV} {h1 h2 : Heap} (q : FlatQ h P l r h1) (k : Keep NoneOf h1 h2) : FlatQ h P l r h2 := ⟨q.1.on k, q.2.1, q.2.2.trans k⟩
theorem refFlat_spec (lp : LP p) : ∀ (N : Nat) (f : Fo) (h : Heap) (v : CV) (P : Nat → Prop), f.size < N → f.wf → (∀ o ∈ f.tok, o.kind = 8 → 1 ≤ o.n ∧ o.n ≤ 32) → f.tok.length ≤ 1000 → f.flat.length ≤ 1000 → Sl opC h P v f.tok →
  WF p 293 [v] h (FlatQ h P f.flat) := by
 intro N
 induction N with
 | zero => intro f h v P hN; omega
 | succ N ih =>
   intro f h v P hN hwf hn hl hfl s
   refine WF_of (by rw [lp.pg]; exact S.pg293) (lp.no ⟨rfl, rfl⟩) ?_
   show W p S.b293 _ _ (retQ [.t 2] _)
   unfold S.b293
   have s := s.lt
   simp
   refine W_loop (FaI N v f.tok f.flat h P) ?_ f.tok.length ⟨f, .nils, [], 0, hwf, by omega, by omega, rfl, rfl, rfl, rfl, OwnL.nil, by simp [CV.blk], Keep.refl _ _⟩
   rintro m e h1 ⟨g, ov, done, i, gwf, gsz, hi, rfl, hg, hd, rfl, q⟩
   have s1 := s.on q.2.2
   have n1 := s1.len (by decide)
   by_cases hie : i = f.tok.length
   ·subst hie
    rw [List.drop_length] at hg
    have hgn : g = .nil := by cases g <;> simp [Fo.tok] at hg <;> rfl
    subst hgn
    simp [Fo.flat] at hd
    simp [n1]
    rw [hd]
    exact q
   ·have hlt : i < f.tok.length := by omega
    have hlt' : (i : Int) < f.tok.length := by omega
    have hw : IntKind.i64.wrap ((i : Int) + 1) = ((i + 1 : Nat) : Int) := by rw [w64 (by omega) (by omega)]; omega
    obtain ⟨b1, o1, row1, y1, y2, y3, y4, y5, y6⟩ := opRow s1 hlt
    have hdl : (done ++ g.flat).length ≤ 1000 := by rw [← hd]; exact hfl
    rw [List.length_append] at hdl
    rw [List.drop_eq_getElem_cons hlt] at hg
    cases g with
    | nil => exact absurd (congrArg List.length hg) (by simp [Fo.tok]; omega)
    | op o r =>
      simp only [Fo.tok, List.cons.injEq] at hg
      obtain ⟨he, hr⟩ := hg
      have k8 : ¬ f.tok[i].kind = 8 := by rw [he]; exact gwf.1
      have k9 : ¬ f.tok[i].kind = 9 := by rw [he]; exact gwf.2.1
      simp only [Fo.flat] at hd hdl
      have kap := Keep.app NoneOf h1 [.arr row1 .tight]
      have hsc := opC.flat y5
      simp [n1, hlt', y1, y2, y3, k8, k9, fillC, splice, y6, spread, cellsAt]
      rw [List.take_of_length_le (by omega)]
      have q1 := q.on kap
      refine OV_push (e := opC) (x := f.tok[i]) q1.1 (opC.on y5 kap) (fun b hb => by have := q.2.2.len; have := hb.2; simp; omega) (by simp [big]; omega) (by decide) ?_
      intro v' h4 o4 k4 hb4
      simp [hw]
      refine ⟨f.tok.length - (i + 1), by omega, r, v', done ++ [f.tok[i]], i + 1, gwf.2.2, by simp [Fo.size] at gsz; omega, by omega, rfl, hr, by rw [hd, he]; simp, rfl, o4, fun b hb => ?_, q1.2.2.then k4 fun b hb e => by have := q.2.1 b e; omega⟩
      rcases hb4 b hb with g | g
      ·exact q.2.1 b g
      ·have := q.2.2.len; simp at g; omega
    | loop o b e r =>
      simp only [Fo.tok, List.cons.injEq] at hg
      obtain ⟨he, hr⟩ := hg
      have k8 : f.tok[i].kind = 8 := by rw [he]; exact gwf.1
      simp only [Fo.flat] at hd hdl
      have hnn := hn _ (List.getElem_mem hlt) k8
      rw [he] at hnn
      have hscan : scanP (f.tok.drop i) 0 i = some (i + 1 + b.tok.length) := by
       rw [List.drop_eq_getElem_cons hlt, he, hr]
       exact scan_loop gwf.1 gwf.2.1 gwf.2.2.1
      simp [n1, hlt', y1, y2, y3, k8]
      refine (refMatch_spec lp s1 hl hlt k8 hscan).mono ?_
      rintro rr hh ⟨rfl, rfl⟩
      have hlr := congrArg List.length hr
      simp at hlr
      obtain ⟨v', cut, sv⟩ := s1.mid (by decide) (k := .i64) (k' := .i64) (m := i + 1) (t := i + 1 + b.tok.length) (by omega) (by omega)
      have hbt : (f.tok.take (i + 1 + b.tok.length)).drop (i + 1) = b.tok := by
       rw [List.drop_take, hr]
       rw [show i + 1 + b.tok.length - (i + 1) = b.tok.length by omega]
       exact List.take_left' rfl
      rw [hbt] at sv
      have cut' : slSl hh 5 v (some (.int .i64 ((i + 1 : Nat) : Int))) (some (.int .i64 ((i + 1 + b.tok.length : Nat) : Int))) = some (v', hh) := cut
      have cut2 : slSl hh 5 v (some (.int .i64 ((i : Int) + 1))) (some (.int .i64 ((i : Int) + 1 + (b.tok.length : Int)))) = some (v', hh) := by simpa using cut'
      have hbm : ∀ o' ∈ b.tok, o' ∈ f.tok := fun o' ho' => by
       have : o' ∈ f.tok.drop (i + 1) := by rw [hr]; simp [ho']
       exact List.mem_of_mem_drop this
      have hbl : b.tok.length ≤ 1000 := by omega
      have hfr : (List.replicate o.n.toNat b.flat).flatten.length = o.n.toNat * b.flat.length := by simp
      rw [List.length_append, hfr] at hdl
      have hn1 : 1 * b.flat.length ≤ o.n.toNat * b.flat.length := Nat.mul_le_mul_right _ (by omega)
      simp [hw, cut2]
      refine (ih b hh v' _ (by simp [Fo.size] at gsz; omega) gwf.2.2.1 (fun o' ho' => hn o' (hbm o' ho')) hbl (by omega) sv).mono ?_
      rintro bv h2 ⟨ob, hbv, k2⟩
      have hkl := q.2.2.len
      have ob' : OwnL opC h2 (fun b => P b ∧ b < h.length) bv b.flat := ob.mono (fun b hb => hb.1) (fun b hb e => by have := hbv b hb; omega)
      have hk0 : f.tok[i].n = o.n := by rw [he]
      refine W_loop (FbI v bv o.n i (i + 1 + b.tok.length) done b.flat h P h2) ?_ o.n.toNat ⟨0, ov, by omega, by simp, by simp, by simpa using q.on k2, ob', fun b hb => by have := hbv b hb; omega, fun b hb e => by have := hbv b hb; have := q.1.blk b e; omega⟩
      rintro m e h3 ⟨k, ov3, hkn, rfl, rfl, q3, ob3, hb3, hne⟩
      have s3 := s.on q3.2.2
      obtain ⟨b5, o5, row5, z1, z2, z3, z4, z5, z6⟩ := opRow s3 hlt
      rw [he] at z4
      by_cases hkk : (k : Int) = o.n
      ·have hw2 : IntKind.i64.wrap ((i : Int) + 1 + (b.tok.length : Int) + 1) = ((i + 1 + b.tok.length + 1 : Nat) : Int) := by rw [w64 (by omega) (by omega)]; omega
       have hnlt : ¬ (k : Int) < o.n := by omega
       have hkt : o.n.toNat = k := by omega
       have hdr : f.tok.drop (i + 1 + b.tok.length + 1) = r.tok := by
        have : (f.tok.drop (i + 1)).drop (b.tok.length + 1) = r.tok := by
         rw [hr]
         rw [List.drop_append, List.drop_eq_nil_of_le (by omega)]
         simp
        rw [List.drop_drop] at this
        rw [show i + 1 + b.tok.length + 1 = i + 1 + (b.tok.length + 1) by omega]
        exact this
       simp [z1, z4, hkk, hw2]
       refine ⟨f.tok.length - (i + 1 + b.tok.length + 1), by omega, r, ov3, done ++ (List.replicate k b.flat).flatten, i + 1 + b.tok.length + 1, gwf.2.2.2, by simp [Fo.size] at gsz; omega, by omega, rfl, hdr, by rw [hd, hkt]; simp, by simp, q3⟩
      ·have hklt : (k : Int) < o.n := by omega
       have hwk : IntKind.i64.wrap ((k : Int) + 1) = ((k + 1 : Nat) : Int) := by rw [w64 (by omega) (by omega)]; omega
       obtain ⟨cells, mi, rs, pp⟩ := ob3
       have hsp := mi.read.spread (by decide)
       have hcl : cells.length = b.flat.length * 5 := rs.1
       have hsp' : spread h3 5 bv = some (b.flat.length, cells) := by
        have : cells.length / opC.n = b.flat.length := by rw [hcl]; exact Nat.mul_div_cancel _ (by decide)
        rw [this] at hsp
        exact hsp
       have hkm : k * b.flat.length ≤ o.n.toNat * b.flat.length := Nat.mul_le_mul_right _ (by omega)
       have hbl3 : ∀ b, bv.blk = some b → b < h3.length := fun b hb => mi.read.blk_lt b hb
       simp [z1, z4, hklt, hsp']
       refine OV_pushes (e := opC) (m := b.flat) q3.1 rs rfl (fun b hb => by have := q3.2.2.len; have := hb.2; omega) (by simp [big]; omega) (by simp [big]; omega) (by decide) ?_
       intro v4 h4 o4 k4 hb4
       simp [hwk]
       refine ⟨o.n.toNat - (k + 1), by omega, k + 1, v4, by omega, by omega, by simp, ⟨?_, fun b hb => ?_, q3.2.2.then k4 fun b hb e => by have := q3.2.1 b e; omega⟩, ⟨cells, mi.keep k4 hne, rs.keep k4 fun b hb e => by have := q3.2.1 b e; have := hb.2; omega, pp⟩, hb3, fun b hb e => ?_⟩
       ·rw [List.replicate_succ', List.flatten_append, ← List.append_assoc]
        simpa using o4
       ·rcases hb4 b hb with g | g
        ·exact q3.2.1 b g
        ·have := q3.2.2.len; omega
       ·rcases hb4 b e with g | g
        ·exact hne b hb g
        ·have := hbl3 b hb; omega
theorem flat_mem : ∀ (f : Fo) (o : OpV), o ∈ f.flat → o ∈ f.tok
 | .nil, o, h => by simp [Fo.flat] at h
 | .op a r, o, h => by
   simp only [Fo.flat, Fo.tok, List.mem_cons] at h ⊢
   rcases h with h | h
   ·exact .inl h
   ·exact .inr (flat_mem r o h)
 | .loop a b e r, o, h => by
   simp only [Fo.flat, Fo.tok, List.mem_append, List.mem_flatten, List.mem_replicate, List.mem_cons] at h ⊢
   rcases h with ⟨x, ⟨_, rfl⟩, hx⟩ | h
   ·exact .inr (.inl (flat_mem b o hx))
   ·exact .inr (.inr (.inr (flat_mem r o h)))
theorem prog_ok {l : List OpV} (h : (progP l).2 = 0) : l.length ≤ 48 ∧ (∀ o ∈ l, opCheckP o = 0) ∧ stepsP l ≤ 512 ∧ ∃ s', orderP l ([], []) 0 = .inr s' ∧ s'.2 = [] ∧ s'.1 = [] := by
 have h2 := h
 unfold progP at h
 by_cases h1 : 48 < l.length
 ·rw [if_pos h1] at h; simp at h
 rw [if_neg h1] at h
 cases hb : badP l 0 with
 | some q =>
   exfalso
   obtain ⟨i, e⟩ := q
   have : ∀ (l : List OpV) (i j : Nat) (e : Int), badP l i = some (j, e) → e ≠ 0 := by
    intro l
    induction l with
    | nil => intro i j e h; simp [badP] at h
    | cons o r ih =>
      intro i j e h
      unfold badP at h
      by_cases hx : opCheckP o = 0
      ·rw [if_pos hx] at h; exact ih _ _ _ h
      ·rw [if_neg hx] at h
       simp at h
       rw [← h.2]; exact hx
   rw [hb] at h
   exact this _ _ _ _ hb h
 | none =>
   rw [hb] at h
   simp only [] at h
   cases ho : orderP l ([], []) 0 with
   | inl i => rw [ho] at h; simp at h
   | inr s' =>
     rw [ho] at h
     simp only [] at h
     by_cases h3 : s'.2 ≠ [] ∨ s'.1 ≠ []
     ·rw [if_pos h3] at h; simp at h
     ·rw [if_neg h3] at h
      by_cases h5 : 512 < stepsP l
      ·rw [if_pos h5] at h; simp at h
      ·have h4 : s'.2 = [] ∧ s'.1 = [] := by
        constructor
        ·exact Classical.byContradiction fun e => h3 (.inl e)
        ·exact Classical.byContradiction fun e => h3 (.inr e)
       exact ⟨by omega, badP_none hb, by omega, s', rfl, h4.1, h4.2⟩
def CoI (v : CV) (l : List OpV) (h : Heap) (m : Nat) (e : Env) (h' : Heap) : Prop :=
 ∃ i : Nat, i ≤ l.length ∧ m = l.length - i ∧ e = [(3, v), (4, .int .i64 (sumL (fun o => gCost o 1) (l.take i))), (5, .int .i64 i)] ∧ h' = h ∧ 0 ≤ sumL (fun o => gCost o 1) (l.take i) ∧ sumL (fun o => gCost o 1) (l.take i) ≤ i * 1000
theorem refCost_spec (lp : LP p) {h : Heap} {v : CV} {l : List OpV} {P : Nat → Prop} (s : Sl opC h P v l) (hp : (progP l).2 = 0) :
  WF p 283 [v] h fun r h' => r = .int .i64 (costP l) ∧ Keep NoneOf h h' := by
 refine WF_of (by rw [lp.pg]; exact S.pg283) (lp.no ⟨rfl, rfl⟩) ?_
 show W p S.b283 _ _ (retQ [.t 2] _)
 unfold S.b283
 obtain ⟨h48, hok, h512, s', ho, hs2, _⟩ := prog_ok hp
 obtain ⟨f, hf, hwf⟩ := tree_of ho hs2
 subst hf
 have hfit : ∀ o ∈ f.tok, opFit o := fun o ho => opFit_of (hok o ho)
 have hn : ∀ o ∈ f.tok, o.kind = 8 → 1 ≤ o.n ∧ o.n ≤ 32 := fun o ho hk => (hfit o ho).1 hk
 have hlen := len_flat hwf fun o ho hk => by have := hn o ho hk; omega
 have hcost := cost_flat hwf fun o ho hk => by have := hn o ho hk; omega
 simp
 refine (refFlat_spec lp (f.size + 1) f h v P (by omega) hwf hn (by omega) (by omega) s).mono ?_
 rintro r h1 ⟨o1, _, k1⟩
 have s1 := o1.sl
 have n1 := s1.len (by decide)
 rw [← hcost]
 have hfl : ∀ o ∈ f.flat, opFit o := fun o ho => hfit o (flat_mem f o ho)
 have hl : f.flat.length ≤ 512 := by omega
 clear hcost hlen o1
 generalize f.flat = fl at *
 refine W_loop (CoI r fl h1) ?_ fl.length ⟨0, by omega, by omega, rfl, rfl, by simp [sumL], by simp [sumL]⟩
 rintro m e h2 ⟨i, hi, rfl, rfl, rfl, a0, a1⟩
 by_cases hie : i = fl.length
 ·subst hie
  simp [n1]
  exact k1
 ·have hlt : i < fl.length := by omega
  have hlt' : (i : Int) < fl.length := by omega
  have hw : IntKind.i64.wrap ((i : Int) + 1) = ((i + 1 : Nat) : Int) := by rw [w64 (by omega) (by omega)]; omega
  obtain ⟨b1, o1, row1, y1, y2, y3, y4, _, _⟩ := opRow s1 hlt
  have hnext : sumL (fun o => gCost o 1) (fl.take (i + 1)) = sumL (fun o => gCost o 1) (fl.take i) + gCost fl[i] 1 := by
   rw [← List.take_append_getElem hlt, sumL_app]
   simp [sumL]
  have hg := gCost_fit (hfl _ (List.getElem_mem hlt)) (t := 1) (by omega) (by omega)
  generalize hacc : sumL (fun o => gCost o 1) (fl.take i) = acc at *
  by_cases k1 : fl[i].kind = 1
  ·have hG : gCost fl[i] 1 = fl[i].n := by unfold gCost; rw [if_pos k1, Int.mul_one]
   have hfn := (hfl _ (List.getElem_mem hlt)).2 k1
   rw [hG] at hnext
   have wa : IntKind.i64.wrap (acc + fl[i].n) = acc + fl[i].n := wrap_in _ (by omega) (by omega)
   simp [n1, hlt', y1, y3, y4, k1, wa, hw]
   exact ⟨fl.length - (i + 1), by omega, i + 1, by omega, rfl, by rw [hnext]; rfl, rfl, by omega, by omega⟩
  ·have hG : gCost fl[i] 1 = 0 := by unfold gCost; rw [if_neg k1]
   rw [hG, Int.add_zero] at hnext
   simp [n1, hlt', y1, y3, y4, k1, hw]
   exact ⟨fl.length - (i + 1), by omega, i + 1, by omega, rfl, by rw [hnext]; rfl, rfl, by omega, by omega⟩
end Go.Cl
