/-
  Texts laid together: AAo AAoW.
-/
import Derived.Test.YtlndogibbgibgaaGreatDoorMX1
import Derived.Test.YtlndogibbgibgaaGreatDoorMY2
namespace Go.Cl
open Go
set_option linter.unusedSimpArgs false
set_option linter.unusedVariables false
set_option maxHeartbeats 1000000
def oneP (c : Int) : List OpV := [⟨1, c, 0, 0, []⟩]
def oneT (c b p : Int) : TaskV := ⟨[97], p, p, b, oneP c⟩
def oneSet (c b p : Int) : SetV := ⟨0, [], [oneT c b p]⟩
structure OneN (c b p r : Int) : Prop where
 c1 : 1 ≤ c
 c12 : c ≤ 12
 b1 : 1 ≤ b
 b15 : b ≤ 15
 pc : c ≤ p
 pb : b ≤ p
 p40 : p ≤ 40
 run : r = min c b
def runJ (c b d now seq : Int) : JobV := ⟨true, oneP c, 0, c - d, d, b, now, seq, false, []⟩
structure OneS (c b p r : Int) (t d : Int) (s : CoreX) : Prop where
 own : s.own = []
 now : s.now = t
 gn : s.gn ≤ t
 f : s.f 0 = if t = 0 then none else some (t - d)
 job : (t = 0 ∨ r ≤ d) ∧ s.jobs = [deadJ] ∨ 0 < t ∧ d < r ∧ ∃ n q, s.jobs = [runJ c b d n q]
 d0 : t = 0 ∨ 1 ≤ d ∧ d ≤ p ∧ d ≤ t
def endK (c b : Int) : Int := if c ≤ b then 6 else 7
def oneE (c b p r : Int) (t d : Int) : List (List CV) :=
 if t = 0 ∨ d = p then [evt t 1 0 0, evt t 3 0 0] ++ (if r = 1 then [evt (t + 1) (endK c b) 0 0] else [])
 else if d < r then [evt t 2 0 12, evt t 3 0 0] ++ (if d + 1 = r then [evt (t + 1) (endK c b) 0 0] else [])
 else [evt t 2 0 12, evt t 8 0 0]
theorem top1 {X : SetV} {z : JobV} : topJ X [z] = if z.live = true ∧ z.waits = false then some 0 else none := by
 simp [topJ, topTX]
theorem one_run {c b p r d now seq : Int} (N : OneN c b p r) (hd0 : 0 ≤ d) (hd : d < r) {s : CoreX} (hj : s.jobs = [runJ c b d now seq]) (n : Nat) :
  ∃ s', loopX (oneSet c b p) (n + 4) s = some (s', evt s.now 3 0 0 :: (if d + 1 = r then [evt (s.now + 1) (endK c b) 0 0] else [])) ∧ s'.own = s.own ∧ s'.now = s.now ∧ s'.gn = s.gn ∧ s'.f = s.f ∧
   (d + 1 = r ∧ s'.jobs = [deadJ] ∨ d + 1 < r ∧ s'.jobs = [runJ c b (d + 1) now seq]) := by
 have hN := N
 obtain ⟨c1, c12, b1, b15, pc, pb, p40, hr⟩ := hN
 have hlive : (runJ c b d now seq).live = true := rfl
 have hleft : (runJ c b d now seq).left = c - d := rfl
 have w1 : IntKind.i64.wrap (c - d - 1) = c - d - 1 := w64 (by omega) (by omega)
 have w2 : IntKind.i64.wrap (d + 1) = d + 1 := w64 (by omega) (by omega)
 have w3 : IntKind.i64.wrap 1 = 1 := w64 (by omega) (by omega)
 have hne : ¬ c - d = 0 := by omega
 obtain ⟨jobs, own, f, gn, snow, sseq⟩ := s
 simp only at hj
 subst hj
 have hz : (runJ c b d now seq).waits = false := rfl
 by_cases hc : c - d = 1
 ·-- done
  have hrc : r = c := by omega
  have hcb : c ≤ b := by omega
  have w0 : IntKind.i64.wrap (c - d - 1) = 0 := by rw [w1]; omega
  have hd1 : d + 1 = r := by omega
  refine ⟨⟨[deadJ], own, f, gn, snow, sseq⟩, ?_, rfl, rfl, rfl, rfl, .inl ⟨hd1, rfl⟩⟩
  have hl : ¬ (1 : Int) < 1 := by omega
  rw [if_pos hd1]
  simp [loopX, top1, runJ, hne, tickS, tickF, w0, w2, w3, behindX, opSX, nowF, oneP, endK, hcb, deadJ]
 ·have w0 : ¬ c - d - 1 = 0 := by omega
  have w1' : ¬ IntKind.i64.wrap (c - d - 1) = 0 := by rw [w1]; exact w0
  by_cases hb : d + 1 = b
  ·-- aborted
   have hd1 : d + 1 = r := by omega
   have hcb : ¬ c ≤ b := by omega
   refine ⟨⟨[deadJ], own, f, gn, snow, sseq⟩, ?_, rfl, rfl, rfl, rfl, .inl ⟨hd1, rfl⟩⟩
   have wb : IntKind.i64.wrap b = b := w64 (by omega) (by omega)
   rw [if_pos hd1]
   simp [loopX, top1, runJ, hne, tickS, tickF, w1, w2, w3, w0, wb, behindX, hb, endK, hcb, deadJ, abortS, freeL, oneP]
  ·have hd1 : ¬ d + 1 = r := by omega
   refine ⟨⟨[runJ c b (d + 1) now seq], own, f, gn, snow, sseq⟩, ?_, rfl, rfl, rfl, rfl, .inr ⟨by omega, rfl⟩⟩
   have e1 : c - d - 1 = c - (d + 1) := by omega
   have e2 : ¬ c - (d + 1) = 0 := by omega
   rw [if_neg hd1]
   rw [e1] at w1 w0
   simp [loopX, top1, runJ, hne, tickS, tickF, e1, w1, w2, w3, w0, behindX, hb, endK, oneP, e2]
theorem one_ask {c b p r : Int} (N : OneN c b p r) {t d : Int} {s : CoreX} (S : OneS c b p r t d s) (ht : 0 ≤ t ∧ t ≤ 1000) :
  if t = 0 ∨ d = p then askLX (oneSet c b p) [0] s = (⟨[newF (oneP c) b t (s.seq + 1)], [], updI s.f 0 t, t, t, s.seq + 1⟩, [evt t 1 0 0]) else askLX (oneSet c b p) [0] s = (s, [evt t 2 0 12]) := by
 obtain ⟨c1, c12, b1, b15, pc, pb, p40, hr⟩ := N
 obtain ⟨so, sn, sg, sf, sj, sd⟩ := S
 obtain ⟨jobs, own, f, gn, now, seq⟩ := s
 simp only at so sn sg sf sj sd
 subst so sn
 have hw : ∀ x : Int, 0 ≤ x → x ≤ 1000 → IntKind.i64.wrap x = x := fun x h0 h1 => w64 (by omega) (by omega)
 have hsub : now - (now - d) = d := by omega
 have a1 : ¬ now < gn := by omega
 have a2 : ¬ now < 0 := by omega
 have a3 : ¬ 1099511627776 < now := by omega
 split
 ·rename_i h
  have hjob : jobs = [deadJ] := by
   rcases sj with ⟨_, e⟩ | ⟨h1, h2, _⟩
   ·exact e
   ·omega
  subst hjob
  have he : askErrX (oneSet c b p) ⟨[deadJ], [], f, gn, now, seq⟩ 0 = 0 := by
   unfold askErrX askE
   by_cases h0 : now = 0
   ·rw [if_pos h0] at sf
    simp [oneSet, oneT, a1, a2, a3, sf, liveX, deadJ]
   ·rw [if_neg h0] at sf
    have hdp : d = p := by omega
    simp [oneSet, oneT, a1, a2, a3, sf, liveX, deadJ, hsub, hw d (by omega) (by omega)]
    omega
  simp only [askLX, askIX, he, if_true]
  rfl
 ·rename_i h
  have h0 : ¬ now = 0 := fun e => h (.inl e)
  have hdp : ¬ d = p := fun e => h (.inr e)
  rw [if_neg h0] at sf
  have hdl : d < p := by omega
  have he : askErrX (oneSet c b p) ⟨jobs, [], f, gn, now, seq⟩ 0 = 12 := by
   unfold askErrX askE
   simp [oneSet, oneT, a1, a2, a3, sf, hsub, hw d (by omega) (by omega), hdl]
  simp [askLX, askIX, he]
theorem one_begin {c b p r now seq : Int} (N : OneN c b p r) {s : CoreX} (hj : s.jobs = [newF (oneP c) b now seq]) (n : Nat) : loopX (oneSet c b p) (n + 1) s = loopX (oneSet c b p) n { s with jobs := [runJ c b 0 now seq] } := by
 obtain ⟨c1, c12, b1, b15, pc, pb, p40, hr⟩ := N
 obtain ⟨jobs, own, f, gn, snow, sseq⟩ := s
 simp only at hj
 subst hj
 have hb : (0 : Int) < b := by omega
 have ho : opSX ⟨[newF (oneP c) b now seq], own, f, gn, snow, sseq⟩ 0 false = some (⟨[runJ c b 0 now seq], own, f, gn, snow, sseq⟩, []) := by
  simp [opSX, newF, nowF, beginF, oneP, runJ, hb]
 rw [loopX, top1]
 simp only [newF, and_self, if_true]
 have h0 : ([newF (oneP c) b now seq] : List JobV)[0]? = some (newF (oneP c) b now seq) := rfl
 simp only [newF] at h0 ho
 simp only [h0, ho]
 cases hL : loopX (oneSet c b p) n ⟨[runJ c b 0 now seq], own, f, gn, snow, sseq⟩ with
 | none => simp
 | some q => obtain ⟨a, e⟩ := q; simp
theorem one_tick {c b p r : Int} (N : OneN c b p r) {t d : Int} {s : CoreX} (S : OneS c b p r t d s) (ht : 0 ≤ t ∧ t ≤ 1000) :
  ∃ s' E, loopX (oneSet c b p) 8 (askLX (oneSet c b p) [0] s).1 = some (s', E) ∧ (askLX (oneSet c b p) [0] s).2 ++ E = oneE c b p r t d ∧ OneS c b p r (t + 1) (if t = 0 ∨ d = p then 1 else d + 1) { s' with now := s.now + 1 } := by
 have hA := one_ask N S ht
 have hN := N
 obtain ⟨c1, c12, b1, b15, pc, pb, p40, hr⟩ := hN
 obtain ⟨so, sn, sg, sf, sj, sd⟩ := S
 by_cases h : t = 0 ∨ d = p
 ·rw [if_pos h] at hA
  rw [hA]
  obtain ⟨s', q1, q2, q3, q4, q5, q6⟩ := one_run N (d := 0) (now := t) (seq := s.seq + 1) (by omega) (by omega) (s := ⟨[runJ c b 0 t (s.seq + 1)], [], updI s.f 0 t, t, t, s.seq + 1⟩) rfl 3
  refine ⟨s', _, (one_begin N rfl 7).trans q1, ?_, ?_⟩
  ·simp only [oneE, if_pos h]
   by_cases h1 : r = 1
   ·simp [h1]
   ·have h1' : ¬ (0 : Int) + 1 = r := by omega
    have h1'' : ¬ (1 : Int) = r := by omega
    simp [h1, h1', h1'']
  ·rw [if_pos h]
   refine ⟨q2, by show s.now + 1 = t + 1; omega, by show s'.gn ≤ _; rw [q4]; show t ≤ _; omega, ?_, ?_, .inr (by omega)⟩
   ·show s'.f 0 = _
    rw [q5, if_neg (by omega)]
    simp [updI]
   ·rcases q6 with ⟨e1, e2⟩ | ⟨e1, e2⟩
    ·exact .inl ⟨.inr (by omega), e2⟩
    ·exact .inr ⟨by omega, by omega, _, _, e2⟩
 ·rw [if_neg h] at hA
  rw [hA]
  have h0 : ¬ t = 0 := fun e => h (.inl e)
  have hdp : ¬ d = p := fun e => h (.inr e)
  have hd := sd.resolve_left h0
  rw [if_neg h0] at sf
  rcases sj with ⟨e1, e2⟩ | ⟨e1, e2, n, q, e3⟩
  ·have hrd : r ≤ d := by omega
   refine ⟨s, [evt s.now 8 0 0], ?_, ?_, ?_⟩
   ·show loopX _ 8 s = _
    rw [loopX, e2, top1]
    simp [deadJ]
   ·simp only [oneE, if_neg h, if_neg (show ¬ d < r by omega), sn]
    rfl
   ·rw [if_neg h]
    exact ⟨so, by show s.now + 1 = t + 1; omega, by show s.gn ≤ _; omega, by show s.f 0 = _; rw [if_neg (by omega), sf, show t + 1 - (d + 1) = t - d by omega], .inl ⟨.inr (by omega), e2⟩, .inr (by omega)⟩
  ·obtain ⟨s', q1, q2, q3, q4, q5, q6⟩ := one_run N (d := d) (now := n) (seq := q) (by omega) e2 e3 4
   refine ⟨s', _, q1, ?_, ?_⟩
   ·simp only [oneE, if_neg h, if_pos e2, sn]
    rfl
   ·rw [if_neg h]
    refine ⟨by show s'.own = []; rw [q2, so], by show s.now + 1 = t + 1; omega, by show s'.gn ≤ _; rw [q4]; omega, by show s'.f 0 = _; rw [q5, if_neg (by omega), sf, show t + 1 - (d + 1) = t - d by omega], ?_, .inr (by omega)⟩
    rcases q6 with ⟨e4, e5⟩ | ⟨e4, e5⟩
    ·exact .inl ⟨.inr (by omega), e5⟩
    ·exact .inr ⟨by omega, by omega, _, _, e5⟩
def oneDay (c b p r : Int) : Nat → Int → Int → List (List CV)
 | 0, _, _ => []
 | n + 1, t, d => oneE c b p r t d ++ oneDay c b p r n (t + 1) (if t = 0 ∨ d = p then 1 else d + 1)
theorem oneE_len {c b p r t d : Int} : (oneE c b p r t d).length ≤ 3 := by
 unfold oneE
 split
 ·split <;> simp
 ·split
  ·split <;> simp
  ·simp
theorem oneDay_len {c b p r : Int} : ∀ {n : Nat} {t d : Int}, (oneDay c b p r n t d).length ≤ 3 * n
 | 0, t, d => by simp [oneDay]
 | n + 1, t, d => by
   have h1 := oneE_len (c := c) (b := b) (p := p) (r := r) (t := t) (d := d)
   have h2 := oneDay_len (c := c) (b := b) (p := p) (r := r) (n := n) (t := t + 1) (d := if t = 0 ∨ d = p then 1 else d + 1)
   rw [oneDay, List.length_append]
   omega
theorem one_day {c b p r : Int} (N : OneN c b p r) : ∀ {n : Nat} {t d : Int} {s : CoreX}, OneS c b p r t d s → 0 ≤ t → t + n ≤ 1000 → ∃ s', dayX (oneSet c b p) 8 (List.replicate n [0]) s = some (s', oneDay c b p r n t d)
 | 0, t, d, s, S, h0, h1 => ⟨s, rfl⟩
 | n + 1, t, d, s, S, h0, h1 => by
   obtain ⟨s', E, q1, q2, q3⟩ := one_tick N S ⟨h0, by omega⟩
   obtain ⟨s2, q4⟩ := one_day N (n := n) q3 (by omega) (by omega)
   refine ⟨s2, ?_⟩
   rw [List.replicate_succ]
   simp only [dayX, q1, q4, oneDay]
   rw [← q2]
theorem one_start {c b p r : Int} (N : OneN c b p r) : OneS c b p r 0 0 (coreX0 (oneSet c b p)) :=
 ⟨rfl, rfl, Int.le_refl _, rfl, .inl ⟨.inl rfl, rfl⟩, .inl rfl⟩
theorem logsF_app {pr : List Int} : ∀ {a b : List (List CV)} {s s1 : LogS}, logsF pr a s = some s1 → logsF pr (a ++ b) s = logsF pr b s1
 | [], b, s, s1, h => by simp [logsF] at h; rw [h]; rfl
 | e :: a, b, s, s1, h => by
   simp only [logsF] at h
   rw [List.cons_append, logsF]
   cases hs : logStep pr s e with
   | none => rw [hs] at h; cases h
   | some s' => rw [hs] at h; exact logsF_app h
theorem logsF_one {pr : List Int} {e : List CV} {s s1 : LogS} (h : logStep pr s e = some s1) : logsF pr [e] s = some s1 := by
 simp only [logsF, h]
theorem logsF_two {pr : List Int} {e e2 : List CV} {s s1 s2 : LogS} (h : logStep pr s e = some s1) (h2 : logStep pr s1 e2 = some s2) : logsF pr [e, e2] s = some s2 := by
 simp only [logsF, h, h2]
theorem ran_last {pre : List LogV} {l : LogV} {bb : Nat} (hp : pre.length ≤ 1000) : ranL [1] [(0, (pre.length : Int), bb)] 0 (pre ++ [l]) = pre ++ [{ l with ran := IntKind.i64.wrap (l.ran + 1) }] := by
 apply List.ext_getElem? fun i => ?_
 simp only [ranL, List.getElem?_mapIdx]
 by_cases h1 : i < pre.length
 ·rw [List.getElem?_append_left h1, List.getElem?_append_left h1, List.getElem?_eq_getElem h1]
  have : ¬ (pre.length : Int) = (i : Int) := by omega
  simp [this]
 ·by_cases h2 : i = pre.length
  ·subst h2
   simp
  ·rw [List.getElem?_eq_none (by simp; omega), List.getElem?_eq_none (by simp; omega)]
   rfl
theorem step_runs {pre : List LogV} {l : LogV} {bb k : Nat} {T : Int} (hp : pre.length ≤ 1000) (hb : bb < k) : logStep [1] ([(0, (pre.length : Int), bb)], k, pre ++ [l]) (evt T 3 0 0) = some ([(0, (pre.length : Int), bb)], k, pre ++ [{ l with ran := IntKind.i64.wrap (l.ran + 1) }]) := by
 have ho : openOk [1] (pre ++ [l]) [(0, (pre.length : Int), bb)] k = true := by
  simp [openOk, hb]
  omega
 simp [logStep, ev3, evt, ho, ran_last hp]
theorem step_end {pre : List LogV} {l : LogV} {bb k : Nat} {T c b : Int} : logStep [1] ([(0, (pre.length : Int), bb)], k, pre ++ [l]) (evt T (endK c b) 0 0) = some ([], k, pre ++ [{ l with fin := T, ended := true, aborted := decide (b < c) }]) := by
 unfold endK
 by_cases h : c ≤ b
 ·have : ¬ b < c := by omega
  simp [logStep, ev3, evt, h, fixK, delK, this]
 ·have : b < c := by omega
  simp [logStep, ev3, evt, h, fixK, delK, this]
theorem step_no {s : LogS} {T k er : Int} (hk : k = 2 ∨ k = 8) : logStep [1] s (evt T k 0 er) = some s := by
 rcases hk with rfl | rfl <;> simp [logStep, ev3, evt]
theorem step_new {out : List LogV} {k : Nat} {T : Int} : logStep [1] ([], k, out) (evt T 1 0 0) = some ([(0, (out.length : Int), k)], k + 1, out ++ [⟨0, T, 0, false, false, 0, 0⟩]) := by
 simp [logStep, ev3, evt, putK, fixK]
def fullL (c b p r : Int) (j : Nat) : LogV := ⟨0, j * p, j * p + r, true, decide (b < c), r, 0⟩
def fullsL (c b p r : Int) (m : Nat) : List LogV := (List.range m).map (fullL c b p r)
@[simp] theorem fullsL_length {c b p r : Int} {m : Nat} : (fullsL c b p r m).length = m := by simp [fullsL]
theorem fullsL_succ {c b p r : Int} {m : Nat} : fullsL c b p r (m + 1) = fullsL c b p r m ++ [fullL c b p r m] := by simp [fullsL, List.range_succ]
def curL (c b p r : Int) (m : Nat) (d : Int) : LogV := ⟨0, m * p, if r ≤ d then m * p + r else 0, decide (r ≤ d), decide (r ≤ d) && decide (b < c), min r d, 0⟩
def OneL (c b p r t d : Int) (s : LogS) : Prop :=
 t = 0 ∧ s.1 = [] ∧ s.2.2 = [] ∨ 0 < t ∧ ∃ m : Nat, m ≤ t ∧ t = m * p + d ∧ s.2.2 = fullsL c b p r m ++ [curL c b p r m d] ∧ (d < r ∧ (∃ bb, bb < s.2.1 ∧ s.1 = [(0, (m : Int), bb)]) ∨ r ≤ d ∧ s.1 = [])
theorem one_logs {c b p r t d : Int} (N : OneN c b p r) {s : LogS} (L : OneL c b p r t d s) (hd : t = 0 ∨ 1 ≤ d ∧ d ≤ p) (ht : 0 ≤ t ∧ t ≤ 900) :
  ∃ s', logsF [1] (oneE c b p r t d) s = some s' ∧ OneL c b p r (t + 1) (if t = 0 ∨ d = p then 1 else d + 1) s' := by
 obtain ⟨c1, c12, b1, b15, pc, pb, p40, hr⟩ := N
 obtain ⟨op, k, out⟩ := s
 have w1 : IntKind.i64.wrap (0 + 1) = 1 := by rw [w64 (by omega) (by omega)]; omega
 by_cases h : t = 0 ∨ d = p
 ·-- a new one
  have hm : ∃ m : Nat, m ≤ t ∧ t = m * p ∧ out = fullsL c b p r m ∧ op = [] := by
   rcases L with ⟨h0, e1, e2⟩ | ⟨h0, m, m1, m2, m3, m4⟩
   ·exact ⟨0, by omega, by simp; exact h0, by simpa [fullsL] using e2, e1⟩
   ·have hdp : d = p := h.resolve_left (Int.ne_of_gt h0)
    have hmp : (m : Int) * 1 ≤ m * p := Int.mul_le_mul_of_nonneg_left (by omega) (by omega)
    have hsucc : ((m + 1 : Nat) : Int) * p = m * p + p := by rw [Int.natCast_add, Int.add_mul]; simp
    refine ⟨m + 1, ?_, ?_, ?_, ?_⟩
    ·rw [Int.mul_one] at hmp
     generalize (m : Int) * p = mp at *
     omega
    ·rw [m2, hdp, hsucc]
    ·simp only at m3
     rw [m3, fullsL_succ]
     have hrd : r ≤ d := by omega
     have : min r d = r := by omega
     simp [curL, fullL, hrd, this]
    ·rcases m4 with ⟨e, _⟩ | ⟨_, e⟩
     ·exact absurd e (by omega)
     ·exact e
  obtain ⟨m, m1, m2, rfl, rfl⟩ := hm
  have hE : oneE c b p r t d = [evt t 1 0 0, evt t 3 0 0] ++ (if r = 1 then [evt (t + 1) (endK c b) 0 0] else []) := by simp only [oneE, if_pos h]
  have hlen : (fullsL c b p r m).length = m := fullsL_length
  have s1 := step_new (out := fullsL c b p r m) (k := k) (T := t)
  have s2 := step_runs (pre := fullsL c b p r m) (l := ⟨0, t, 0, false, false, 0, 0⟩) (bb := k) (k := k + 1) (T := t) (by rw [hlen]; omega) (by omega)
  simp only [w1] at s2
  have s12 : logsF [1] [evt t 1 0 0, evt t 3 0 0] ([], k, fullsL c b p r m) = some ([(0, (m : Int), k)], k + 1, fullsL c b p r m ++ [⟨0, t, 0, false, false, 1, 0⟩]) := by
   rw [hlen] at s1 s2
   simp only [logsF, s1, s2]
  rw [hE, logsF_app s12, if_pos h]
  by_cases h1 : r = 1
  ·have s3 := step_end (pre := fullsL c b p r m) (l := ⟨0, t, 0, false, false, 1, 0⟩) (bb := k) (k := k + 1) (T := t + 1) (c := c) (b := b)
   rw [hlen] at s3
   rw [if_pos h1]
   refine ⟨_, logsF_one s3, .inr ⟨by omega, m, by omega, by omega, ?_, .inr ⟨by omega, rfl⟩⟩⟩
   have : min r 1 = 1 := by omega
   simp [curL, h1, m2]
  ·rw [if_neg h1]
   refine ⟨_, rfl, .inr ⟨by omega, m, by omega, by omega, ?_, .inl ⟨by omega, k, by simp, rfl⟩⟩⟩
   have h2 : ¬ r ≤ 1 := by omega
   have : min r 1 = 1 := by omega
   simp [curL, h2, this, m2]
 ·have h0 : ¬ t = 0 := fun e => h (.inl e)
  have hdp : ¬ d = p := fun e => h (.inr e)
  have hd := hd.resolve_left h0
  rcases L with ⟨e, _⟩ | ⟨_, m, m1, m2, m3, m4⟩
  ·exact absurd e h0
  simp only at m3 m4
  subst m3
  have hlen : (fullsL c b p r m).length = m := fullsL_length
  rw [if_neg h]
  rcases m4 with ⟨hdr, bb, hbb, rfl⟩ | ⟨hrd, rfl⟩
  ·-- it runs
   have hE : oneE c b p r t d = [evt t 2 0 12, evt t 3 0 0] ++ (if d + 1 = r then [evt (t + 1) (endK c b) 0 0] else []) := by simp only [oneE, if_neg h, if_pos hdr]
   have s2 := step_runs (pre := fullsL c b p r m) (l := curL c b p r m d) (bb := bb) (k := k) (T := t) (by rw [hlen]; omega) hbb
   have hran : (curL c b p r m d).ran = d := by simp [curL]; omega
   have wd : IntKind.i64.wrap (d + 1) = d + 1 := w64 (by omega) (by omega)
   rw [hran, wd, hlen] at s2
   have s12 : logsF [1] [evt t 2 0 12, evt t 3 0 0] ([(0, (m : Int), bb)], k, fullsL c b p r m ++ [curL c b p r m d]) = some ([(0, (m : Int), bb)], k, fullsL c b p r m ++ [{ curL c b p r m d with ran := d + 1 }]) := by
    simp only [logsF, step_no (.inl rfl), s2]
   rw [hE, logsF_app s12]
   by_cases h1 : d + 1 = r
   ·have s3 := step_end (pre := fullsL c b p r m) (l := { curL c b p r m d with ran := d + 1 }) (bb := bb) (k := k) (T := t + 1) (c := c) (b := b)
    rw [hlen] at s3
    rw [if_pos h1]
    refine ⟨_, logsF_one s3, .inr ⟨by omega, m, by omega, by omega, ?_, .inr ⟨by omega, rfl⟩⟩⟩
    have h2 : r ≤ d + 1 := by omega
    have h3 : min r (d + 1) = d + 1 := by omega
    have h4 : t + 1 = m * p + r := by omega
    simp [curL, h2, h3, h4]
   ·rw [if_neg h1]
    refine ⟨_, rfl, .inr ⟨by omega, m, by omega, by omega, ?_, .inl ⟨by omega, bb, hbb, rfl⟩⟩⟩
    have h2 : ¬ r ≤ d + 1 := by omega
    have h2' : ¬ r ≤ d := by omega
    have h3 : min r (d + 1) = d + 1 := by omega
    simp [curL, h2, h2', h3]
  ·have hE : oneE c b p r t d = [evt t 2 0 12, evt t 8 0 0] := by simp only [oneE, if_neg h, if_neg (show ¬ d < r by omega)]
   rw [hE]
   refine ⟨_, logsF_two (step_no (.inl rfl)) (step_no (.inr rfl)), .inr ⟨by omega, m, by omega, by omega, ?_, .inr ⟨by omega, rfl⟩⟩⟩
   have h2 : r ≤ d + 1 := by omega
   have h3 : min r (d + 1) = r := by omega
   have h4 : min r d = r := by omega
   simp [curL, h2, hrd, h3, h4]
end Go.Cl
