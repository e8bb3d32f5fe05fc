/-
  Texts laid together: AEnP AEnQ AEnR.
-/
import Derived.Test.YtjlcfkdkongmmaaGreatDoorMJ
namespace Go.Cl
open Go
set_option linter.unusedSimpArgs false
set_option linter.unusedVariables false
set_option maxHeartbeats 1000000
theorem RunJ.now {x : JobV} {c left used : Int} (r : RunJ x c left used) : nowF x = (⟨1, c, 0, 0, []⟩, true) := by
 unfold nowF
 rw [r.live, r.pc, r.flat]
 simp
theorem RunJ.begin {x : JobV} {c : Int} (r : RunJ x c 0 0) : beginF x = ({ x with left := c }, true) := by
 unfold beginF
 rw [r.now, r.left, r.used, r.most]
 simp
theorem RunJ.begun {x : JobV} {c : Int} (r : RunJ x c 0 0) : RunJ { x with left := c } c c 0 := ⟨r.live, r.flat, r.pc, rfl, r.used, r.most, r.held, r.waits⟩
theorem RunJ.tick {x : JobV} {c d u : Int} (r : RunJ x c d u) (h1 : 2 ≤ d) (h2 : d ≤ 20) (h3 : 0 ≤ u) (h4 : u ≤ 20) : (tickF x).2 = false ∧ RunJ (tickF x).1 c (d - 1) (u + 1) := by
 have e : tickF x = ({ x with left := d - 1, used := u + 1 }, false) := by
  unfold tickF
  rw [r.live, r.left, r.used, r.most, w64 (x := d - 1) (by omega) (by omega), w64 (x := u + 1) (by omega) (by omega), if_pos ⟨rfl, by omega⟩, if_neg (by omega)]
  have : ¬ u + 1 = 500 := by omega
  simp [this]
 rw [e]
 exact ⟨rfl, r.live, r.flat, r.pc, rfl, rfl, r.most, r.held, r.waits⟩
theorem RunJ.last {x : JobV} {c u : Int} (r : RunJ x c 1 u) (h3 : 0 ≤ u) (h4 : u ≤ 20) : (tickF x).2 = false ∧ (tickF x).1.live = true ∧ (tickF x).1.left = 0 ∧ (tickF x).1.waits = false ∧ (nowF (tickF x).1).2 = false := by
 have e : tickF x = ({ x with left := 0, used := u + 1, pc := 1 }, false) := by
  unfold tickF
  rw [r.live, r.left, r.used, r.pc, w64 (x := u + 1) (by omega) (by omega)]
  rfl
 rw [e]
 refine ⟨rfl, r.live, rfl, r.waits, ?_⟩
 unfold nowF
 simp [r.live, r.flat]
variable {cs : List Int} {s : CoreS} {k : Nat} {d c : Int}
theorem SimP.job (q : SimP cs s.jobs k d) (hc : cs[k]? = some c) : ∃ x, s.jobs[k]? = some x ∧ RunJ x c d (if d ≠ 0 then c - d else 0) := by
 have hk := (List.getElem?_eq_some_iff.1 hc).1
 have := q.len
 have hx : s.jobs[k]? = some (s.jobs[k]'(by omega)) := List.getElem?_eq_getElem (by omega)
 have := q.run k _ c hx hc (Nat.le_refl _)
 exact ⟨_, hx, by simpa using this⟩
theorem beh_stop (q : SimP cs s.jobs k d) (h : d ≠ 0 ∨ k = cs.length) (m : Nat) : behindF (m + 1) s = some (s, []) := by
 simp only [behindF]
 rw [q.top]
 by_cases hk : k < cs.length
 ·rw [if_pos hk]
  obtain ⟨x, hx, r⟩ := q.job (List.getElem?_eq_getElem hk)
  simp only [hx]
  rw [if_pos (by rw [r.left]; omega)]
 ·rw [if_neg hk]
theorem op_begin (q : SimP cs s.jobs k 0) (hc : cs[k]? = some c) (h1 : 1 ≤ c) (bh : Bool) : ∃ s', opS s k bh = some (s', []) ∧ SimP cs s'.jobs k c ∧ s'.now = s.now ∧ s'.seq = s.seq := by
 obtain ⟨x, hx, r⟩ := q.job hc
 have r : RunJ x c 0 0 := by simpa using r
 refine ⟨{ s with jobs := s.jobs.set k (beginF x).1 }, ?_, ?_, rfl, rfl⟩
 ·unfold opS
  simp only [hx]
  rw [if_pos ⟨r.live, r.waits, r.left⟩, r.now, if_neg (by simp), if_pos ⟨rfl, by rw [r.begin]⟩]
 ·rw [r.begin]
  refine q.set hc ?_
  have : c - c = 0 := by omega
  rw [if_pos (by omega), this]
  exact r.begun
theorem beh_next (q : SimP cs s.jobs k 0) (hcs : ∀ c ∈ cs, 1 ≤ c ∧ c ≤ 20) (m : Nat) : ∃ s' d', behindF (m + 2) s = some (s', []) ∧ SimP cs s'.jobs k d' ∧ (cs[k]? = some d' ∨ k = cs.length) ∧ s'.now = s.now ∧ s'.seq = s.seq := by
 by_cases hk : k < cs.length
 ·have hc : cs[k]? = some cs[k] := List.getElem?_eq_getElem hk
  have hcc := hcs cs[k] (List.getElem_mem hk)
  obtain ⟨s', ho, q', n1, n2⟩ := op_begin q hc hcc.1 true
  refine ⟨s', cs[k], ?_, q', .inl hc, n1, n2⟩
  obtain ⟨x, hx, r⟩ := q.job hc
  rw [behindF, q.top, if_pos hk]
  simp only [hx]
  rw [if_neg (by rw [r.left]; simp), ho]
  simp only
  rw [beh_stop q' (.inl (by omega))]
  rfl
 ·have := q.le
  exact ⟨s, 0, beh_stop q (.inr (by omega)) _, q, .inr (by omega), rfl, rfl⟩
theorem tick_sim (q : SimP cs s.jobs k d) (hc : cs[k]? = some c) (hcs : ∀ c ∈ cs, 1 ≤ c ∧ c ≤ 20) (h1 : 1 ≤ d) (h2 : d ≤ c) (m : Nat) : ∃ s' E k' d', loopF (m + 4) s = some (s', E) ∧ SimP cs s'.jobs k' d' ∧ s'.now = s.now ∧ s'.seq = s.seq ∧
  ((2 ≤ d ∧ k' = k ∧ d' = d - 1 ∧ E = [evt s.now 3 k 0]) ∨ (d = 1 ∧ k' = k + 1 ∧ E = [evt s.now 3 k 0, evt (s.now + 1) 6 k 0] ∧ (cs[k + 1]? = some d' ∨ k + 1 = cs.length))) := by
 have hk := (List.getElem?_eq_some_iff.1 hc).1
 have hcc := hcs c (List.mem_of_getElem? hc)
 obtain ⟨x, hx, r⟩ := q.job hc
 rw [if_pos (by omega)] at r
 have hd : x.left ≠ 0 := by rw [r.left]; omega
 by_cases h : 2 ≤ d
 ·obtain ⟨t1, t2⟩ := r.tick h (by omega) (by omega) (by omega)
  have q1 : SimP cs (s.jobs.set k (tickF x).1) k (d - 1) := q.set hc (by
   rw [if_pos (by omega), show c - (d - 1) = c - d + 1 by omega]; exact t2)
  refine ⟨{ s with jobs := s.jobs.set k (tickF x).1 }, [evt s.now 3 k 0], k, d - 1, ?_, q1, rfl, rfl, .inl ⟨h, rfl, rfl, rfl⟩⟩
  rw [loopF, q.top, if_pos hk]
  simp only [hx]
  rw [if_pos hd, if_neg (by rw [t1]; simp), beh_stop (s := { s with jobs := s.jobs.set k (tickF x).1 }) q1 (.inl (by omega))]
 ·obtain rfl : d = 1 := by omega
  obtain ⟨t1, t2, t3, t4, t5⟩ := r.last (by omega) (by omega)
  have q1 : SimP cs (s.jobs.set k deadJ) (k + 1) 0 := q.step hk
  obtain ⟨s2, d2, b1, q2, b3, b4, b5⟩ := beh_next (s := { s with jobs := s.jobs.set k deadJ }) q1 hcs m
  refine ⟨s2, [evt s.now 3 k 0, evt (s.now + 1) 6 k 0], k + 1, d2, ?_, q2, b4, b5, .inr ⟨rfl, rfl, rfl, b3⟩⟩
  rw [loopF, q.top, if_pos hk]
  simp only [hx]
  rw [if_pos hd, if_neg (by rw [t1]; simp)]
  have hkl : k < s.jobs.length := (List.getElem?_eq_some_iff.1 hx).1
  have htop : topF (s.jobs.set k (tickF x).1) = some k := by
   rw [topF, topTo_first (k := k) (fun j y hy hj => ?_) (fun y hy => ?_) _ (Nat.le_refl _), if_pos (by simpa using hkl)]
   ·rw [List.getElem?_set_ne (by omega)] at hy
    exact q.dead j y hy hj
   ·rw [List.getElem?_set_self hkl] at hy
    cases hy; exact t2
  have hget : (s.jobs.set k (tickF x).1)[k]? = some (tickF x).1 := List.getElem?_set_self hkl
  have ho : opS { s with jobs := s.jobs.set k (tickF x).1 } k true = some ({ s with jobs := s.jobs.set k deadJ }, [evt (s.now + 1) 6 k 0]) := by
   unfold opS
   simp only [hget]
   rw [if_pos ⟨t2, t4, t3⟩, if_pos t5]
   simp [List.set_set]
  rw [behindF]
  simp only [htop, hget]
  rw [if_neg (by rw [t3]; simp), ho]
  simp only
  rw [b1]
  rfl
theorem idle_sim (q : SimP cs s.jobs k d) (hk : k = cs.length) (m : Nat) : loopF (m + 1) s = some (s, [evt s.now 8 0 0]) := by
 rw [loopF, q.top, if_neg (by omega)]
theorem first_sim (q : SimP cs s.jobs 0 0) (hc : cs[0]? = some c) (hcs : ∀ c ∈ cs, 1 ≤ c ∧ c ≤ 20) (m : Nat) : ∃ s', loopF (m + 1) s = loopF m s' ∧ SimP cs s'.jobs 0 c ∧ s'.now = s.now ∧ s'.seq = s.seq := by
 have hcc := hcs c (List.mem_of_getElem? hc)
 have hk := (List.getElem?_eq_some_iff.1 hc).1
 obtain ⟨s', ho, q', n1, n2⟩ := op_begin q hc hcc.1 false
 refine ⟨s', ?_, q', n1, n2⟩
 obtain ⟨x, hx, r⟩ := q.job hc
 conv => lhs; rw [loopF]
 rw [q.top, if_pos hk]
 simp only [hx]
 rw [if_neg (by rw [r.left]; simp), ho]
 simp only
 cases loopF m s' with
 | none => rfl
 | some q => rfl
theorem behindF_plain : ∀ {n : Nat} {s s' : CoreS} {e : List (List CV)}, Plain s → behindF n s = some (s', e) → Plain s'
 | 0, s, s', e, q, h => by simp [behindF] at h
 | n + 1, s, s', e, q, h => by
   simp only [behindF] at h
   split at h
   ·simp at h; rw [← h.1]; exact q
   ·split at h
    ·simp at h
    ·split at h
     ·simp at h; rw [← h.1]; exact q
     ·split at h
      ·simp at h
      ·rename_i s1 e1 ho
       split at h
       ·simp at h
       ·rename_i s2 e2 hb
        simp at h
        rw [← h.1]
        exact behindF_plain (opS_plain q ho).1 hb
theorem loopF_plain : ∀ {n : Nat} {s s' : CoreS} {e : List (List CV)}, Plain s → loopF n s = some (s', e) → Plain s'
 | 0, s, s', e, q, h => by simp [loopF] at h
 | n + 1, s, s', e, q, h => by
   simp only [loopF] at h
   split at h
   ·simp at h; rw [← h.1]; exact q
   ·split at h
    ·simp at h
    ·rename_i x hx
     split at h
     ·split at h
      ·simp at h
      ·split at h
       ·simp at h
       ·rename_i s2 e2 hb
        simp at h
        rw [← h.1]
        exact behindF_plain (Plain.set q (q x (List.mem_of_getElem? hx)).tick) hb
     ·split at h
      ·simp at h
      ·rename_i s1 e1 ho
       split at h
       ·simp at h
       ·rename_i s2 e2 hb
        simp at h
        rw [← h.1]
        exact loopF_plain (opS_plain q ho).1 hb
def rev : Nat → List Int
 | 0 => []
 | n + 1 => (n : Int) :: rev n
@[simp] theorem rev_length : ∀ n, (rev n).length = n
 | 0 => rfl
 | n + 1 => by simp [rev, rev_length n]
abbrev Ev := Int × Int × Int × Int
def evq (q : Ev) : List CV := evt q.1 q.2.1 q.2.2.1 q.2.2.2
theorem ask_new {l : List TaskV} {s : CoreS} {i : Nat} (hi : i < l.length) (hf : s.f i = none) (hl : liveAt s i = false) (h0 : s.gn ≤ s.now) (h1 : 0 ≤ s.now) (h2 : s.now ≤ 1099511627776) : askErr l s i = 0 := by
 unfold askErr askE
 rw [hl, hf, if_neg (by simp; omega), if_neg (by omega)]
 simp
theorem SimP.ask {l : List Int} {s : CoreS} {k : Nat} (q : SimP (l.map sumC) s.jobs (k + 1) 0) (hk : k < l.length) : SimP (l.map sumC) (askS (runTs l) s k).jobs k 0 := by
 have e : askS (runTs l) s k = ⟨s.jobs.set k (newF (runT k l[k]).prog (runT k l[k]).bud s.now (s.seq + 1)), updI s.f k s.now, s.now, s.now, s.seq + 1⟩ := by
  simp [askS, runTs_get hk]
 have hc : (l.map sumC)[k]? = some (sumC l[k]) := by simp [hk]
 rw [e]
 refine ⟨by simpa using q.len, by simpa using Nat.le_of_lt hk, fun j y hy hj => ?_, fun j y c hy hc' hj => ?_⟩
 ·rw [List.getElem?_set_ne (by omega)] at hy
  exact q.dead j y hy (by omega)
 ·by_cases hjk : j = k
  ·subst hjk
   have hlt := (List.getElem?_eq_some_iff.1 hy).1
   rw [List.getElem?_set_self (by simpa using hlt)] at hy
   rw [hc] at hc'
   cases hy
   cases hc'
   simp only [if_true, ne_eq, not_true_eq_false, and_false, if_false]
   exact ⟨rfl, rfl, rfl, rfl, rfl, rfl, rfl, rfl⟩
  ·rw [List.getElem?_set_ne (by omega)] at hy
   have := q.run j y c hy hc' (by omega)
   have h2 : ¬ j = k + 1 ∨ True := .inr trivial
   simp only [ne_eq, not_true_eq_false, and_false, if_false] at this ⊢
   by_cases h3 : j = k + 1
   ·rw [if_pos h3] at this; rw [if_neg hjk]; exact this
   ·rw [if_neg h3] at this; rw [if_neg hjk]; exact this
theorem ask_all {l : List Int} : ∀ (k : Nat) (s : CoreS), k ≤ l.length → SimP (l.map sumC) s.jobs k 0 → (∀ j : Nat, j < k → s.f j = none) → s.gn = 0 → s.now = 0 →
  SimP (l.map sumC) (askL (runTs l) (rev k) s).1.jobs 0 0 ∧ (askL (runTs l) (rev k) s).1.now = 0 ∧ s.seq ≤ (askL (runTs l) (rev k) s).1.seq ∧ (askL (runTs l) (rev k) s).1.seq ≤ s.seq + k ∧
   ∃ q : List Ev, (askL (runTs l) (rev k) s).2 = q.map evq ∧ ∀ x ∈ q, x.2.1 = 1
 | 0, s, hk, q, hf, hg, hn => ⟨q, hn, by simp [rev, askL], by simp [rev, askL], [], rfl, by simp⟩
 | k + 1, s, hk, q, hf, hg, hn => by
   have hlt : k < l.length := by omega
   have hkl : k < s.jobs.length := by have := q.len; simp at this; omega
   have hlv : liveAt s k = false := by
    have hx := List.getElem?_eq_getElem hkl
    simp [liveAt, hx, q.dead k _ hx (by omega)]
   have he : askErr (runTs l) s k = 0 := ask_new (by simpa using hlt) (hf k (by omega)) hlv (by omega) (by omega) (by omega)
   have hI : askI (runTs l) s k = (askS (runTs l) s k, evt s.now 1 k 0) := by
    unfold askI
    rw [if_pos he]
    simp
   have e : askS (runTs l) s k = ⟨s.jobs.set k (newF (runT k l[k]).prog (runT k l[k]).bud s.now (s.seq + 1)), updI s.f k s.now, s.now, s.now, s.seq + 1⟩ := by
    simp [askS, runTs_get hlt]
   have q' := q.ask hlt
   have r := ask_all k (askS (runTs l) s k) (by omega) q' (fun j hj => by
    rw [e]
    simp only [updI]
    rw [if_neg (by omega)]
    exact hf j (by omega)) (by rw [e]; exact hn) (by rw [e]; exact hn)
   have hsq : (askS (runTs l) s k).seq = s.seq + 1 := by rw [e]
   simp only [rev, askL, hI]
   obtain ⟨r1, r2, r3, r4, q2, r5, r6⟩ := r
   refine ⟨r1, r2, by omega, by omega, (s.now, 1, (k : Int), 0) :: q2, by rw [List.map_cons, ← r5]; rfl, fun x hx => ?_⟩
   rcases List.mem_cons.1 hx with rfl | hx
   ·rfl
   ·exact r6 x hx
def chkE (cs : List Int) (tot t : Int) (q : Nat × Int) (e : Ev) : Option (Nat × Int) :=
 if e.2.1 = 6 then
  match cs[q.1]? with
  | some c => if e.2.2.1 = q.1 ∧ e.1 = q.2 + c then some (q.1 + 1, q.2 + c) else none
  | none => none
 else if e.2.1 = 3 then (if e.2.2.1 = q.1 then some q else none)
 else if e.2.1 = 8 then (if t = tot then some q else none)
 else some q
def chkL (cs : List Int) (tot t : Int) : List Ev → Nat × Int → Option (Nat × Int)
 | [], q => some q
 | e :: r, q => match chkE cs tot t q e with
   | some q' => chkL cs tot t r q'
   | none => none
theorem chkL_skip {cs : List Int} {tot t : Int} {q : Nat × Int} {r : List Ev} : ∀ {a : List Ev}, (∀ x ∈ a, x.2.1 = 1) → chkL cs tot t (a ++ r) q = chkL cs tot t r q
 | [], _ => rfl
 | e :: a, h => by
   have h1 := h e List.mem_cons_self
   have : chkE cs tot t q e = some q := by unfold chkE; rw [h1]; rfl
   rw [List.cons_append, chkL, this]
   exact chkL_skip fun x hx => h x (List.mem_cons_of_mem _ hx)
theorem sum_succ {cs : List Int} {k : Nat} {c : Int} (hc : cs[k]? = some c) : (cs.take (k + 1)).sum = (cs.take k).sum + c := by
 rw [List.take_add_one, hc]
 simp
def SimL (l : List Int) (s : CoreS) (asks : List Int) (k : Nat) (t : Int) : Prop :=
 Plain s ∧ s.now = t ∧ 0 ≤ s.seq ∧ s.seq ≤ 12 ∧ asks.length ≤ 12 ∧
 ((t = 0 ∧ k = 0 ∧ asks = rev l.length ∧ SimP (l.map sumC) s.jobs l.length 0 ∧ (∀ j : Nat, s.f j = none) ∧ s.gn = 0 ∧ s.seq = 0) ∨
  (asks = [] ∧ ∃ d, SimP (l.map sumC) s.jobs k d ∧ ((∃ c, (l.map sumC)[k]? = some c ∧ 1 ≤ d ∧ d ≤ c ∧ t = ((l.map sumC).take k).sum + (c - d)) ∨ (k = l.length ∧ ((l.map sumC).sum ≤ t)))))
theorem tick_chk {cs : List Int} {s : CoreS} {k : Nat} {d c t tot : Int} (q : SimP cs s.jobs k d) (hc : cs[k]? = some c) (hcs : ∀ c ∈ cs, 1 ≤ c ∧ c ≤ 20) (h1 : 1 ≤ d) (h2 : d ≤ c) (hn : s.now = t) (ht : t = (cs.take k).sum + (c - d)) (m : Nat) :
  ∃ s' E2 EQ k' d', loopF (m + 4) s = some (s', E2) ∧ E2 = EQ.map evq ∧ EQ.length ≤ 2 ∧ chkL cs tot t EQ (k, (cs.take k).sum) = some (k', (cs.take k').sum) ∧ SimP cs s'.jobs k' d' ∧ s'.seq = s.seq ∧ s'.now = s.now ∧
   ((∃ c', cs[k']? = some c' ∧ 1 ≤ d' ∧ d' ≤ c' ∧ t + 1 = (cs.take k').sum + (c' - d')) ∨ (k' = cs.length ∧ cs.sum ≤ t + 1)) := by
 obtain ⟨s', E, k', d', a1, a2, a3, a4, a5⟩ := tick_sim q hc hcs h1 h2 m
 rcases a5 with ⟨b1, rfl, rfl, rfl⟩ | ⟨rfl, rfl, rfl, b4⟩
 ·refine ⟨s', _, [(s.now, 3, (k' : Int), 0)], k', d - 1, a1, rfl, by simp, ?_, a2, a4, a3, .inl ⟨c, hc, by omega, by omega, by omega⟩⟩
  simp [chkL, chkE]
 ·have hs := sum_succ hc
  refine ⟨s', _, [(s.now, 3, (k : Int), 0), (s.now + 1, 6, (k : Int), 0)], k + 1, d', a1, rfl, by simp, ?_, a2, a4, a3, ?_⟩
  ·have e1 : chkE cs tot t (k, (cs.take k).sum) (s.now, 3, (k : Int), 0) = some (k, (cs.take k).sum) := by simp [chkE]
   have e2 : chkE cs tot t (k, (cs.take k).sum) (s.now + 1, 6, (k : Int), 0) = some (k + 1, (cs.take k).sum + c) := by
    unfold chkE
    simp only [hc, if_true, true_and]
    rw [if_pos (by omega)]
   simp only [chkL, e1, e2, hs]
  ·rcases b4 with b4 | b4
   ·have := hcs d' (List.mem_of_getElem? b4)
    exact .inl ⟨d', b4, this.1, by omega, by omega⟩
   ·refine .inr ⟨b4, ?_⟩
    have : (cs.take (k + 1)).sum = cs.sum := by rw [b4, List.take_length]
    omega
theorem sim_step {l : List Int} {s : CoreS} {asks : List Int} {k : Nat} {t : Int} (hx : ∀ x ∈ l, 0 ≤ x ∧ x ≤ 255) (h1 : 1 ≤ l.length) (h12 : l.length ≤ 12) (I : SimL l s asks k t) (hT : TasksOk (runTs l)) (htt : t ≤ (l.map sumC).sum) :
  ∃ n s' E2 EQ k', loopF n (askL (runTs l) asks s).1 = some (s', E2) ∧ E2.length ≤ 1000 ∧ (askL (runTs l) asks s).2 ++ E2 = EQ.map evq ∧ EQ.length ≤ 100 ∧
   chkL (l.map sumC) (l.map sumC).sum t EQ (k, ((l.map sumC).take k).sum) = some (k', ((l.map sumC).take k').sum) ∧ SimL l { s' with now := s.now + 1 } [] k' (t + 1) := by
 obtain ⟨hp, hn, hs0, hs12, hal, I⟩ := I
 have hcs : ∀ c ∈ l.map sumC, 1 ≤ c ∧ c ≤ 20 := fun c hc => by
  obtain ⟨x, hx', rfl⟩ := List.mem_map.1 hc
  exact sumC_le (hx x hx')
 have hlen : (l.map sumC).length = l.length := by simp
 generalize hcsd : l.map sumC = cs at *
 rcases I with ⟨rfl, rfl, rfl, q, hf, hg, hsq⟩ | ⟨rfl, d, q, I⟩
 ·rw [← hcsd] at q
  obtain ⟨r1, r2, r3, r4, qe, r5, r6⟩ := ask_all l.length s (Nat.le_refl _) q (fun j _ => hf j) hg hn
  rw [hcsd] at r1
  have hc0 : cs[0]? = some (cs[0]'(by omega)) := List.getElem?_eq_getElem (by omega)
  have hp1 : Plain (askL (runTs l) (rev l.length) s).1 := askL_plain hp hT
  obtain ⟨s1, u1, u2, u3, u4⟩ := first_sim r1 hc0 hcs 4
  have hcc := hcs _ (List.getElem_mem (show 0 < cs.length by omega))
  obtain ⟨s', E2, EQ, k', d', v1, v2, v3, v4, v5, v6, v7, v8⟩ := tick_chk (tot := cs.sum) u2 hc0 hcs hcc.1 (Int.le_refl _) (t := 0) (by rw [u3, r2]) (by simp) 0
  refine ⟨5, s', E2, qe ++ EQ, k', by rw [u1]; exact v1, by rw [v2]; simp; omega, by rw [r5, v2, List.map_append], ?_, ?_, ?_, rfl.trans (by simp [hn]), ?_, ?_, by simp, .inr ⟨rfl, d', by rw [hcsd]; exact v5, ?_⟩⟩
  ·have : qe.length = l.length := by
    have e := congrArg List.length r5
    rw [List.length_map] at e
    have : ∀ (a : List Int) (s : CoreS), (askL (runTs l) a s).2.length = a.length := by
     intro a
     induction a with
     | nil => intro s; rfl
     | cons i a ih => intro s; simp [askL, ih]
    rw [this, rev_length] at e
    omega
   rw [List.length_append]
   omega
  ·rw [chkL_skip r6]; exact v4
  ·have hl5 : loopF 5 (askL (runTs l) (rev l.length) s).1 = some (s', E2) := by rw [u1]; exact v1
   have e := loopF_plain hp1 hl5
   exact e
  ·show 0 ≤ s'.seq
   omega
  ·show s'.seq ≤ 12
   omega
  ·rw [hlen] at v8
   simp only [hcsd]
   exact v8
 ·rcases I with ⟨c, hc, hd1, hd2, ht⟩ | ⟨rfl, ht⟩
  ·obtain ⟨s', E2, EQ, k', d', v1, v2, v3, v4, v5, v6, v7, v8⟩ := tick_chk (tot := cs.sum) q hc hcs hd1 hd2 hn ht 0
   refine ⟨4, s', E2, EQ, k', v1, by rw [v2]; simp; omega, by rw [v2]; rfl, by omega, v4, (have e := loopF_plain hp v1; e), by show s.now + 1 = t + 1; omega, ?_, ?_, by simp, .inr ⟨rfl, d', by rw [hcsd]; exact v5, ?_⟩⟩
   ·show 0 ≤ s'.seq
    omega
   ·show s'.seq ≤ 12
    omega
   ·rw [hlen] at v8
    simp only [hcsd]
    exact v8
  ·refine ⟨1, s, _, [(s.now, 8, 0, 0)], l.length, idle_sim q hlen.symm 0, by simp, rfl, by simp, ?_, hp, by show s.now + 1 = t + 1; omega, hs0, hs12, by simp, .inr ⟨rfl, d, by rw [hcsd]; exact q, .inr ⟨rfl, by rw [hcsd]; omega⟩⟩⟩
   have : t = cs.sum := by omega
   subst this
   simp [chkL, chkE]
variable {p : PP}
structure EngH (K : CoreB) (eb : Nat) (l : List TaskV) (s : CoreS) (h : Heap) (h' : Heap) : Prop where
 k : Keep NoneOf h h'
 core : ∃ Q cells, CoreA K cells l s Q h'
 eg : h'[eb]? = some (.arr [.ptr K.b 0] .tight)
 eo : ¬ K.own eb
 own : ∀ y, K.own y → h.length ≤ y
def SmA (v0 : CV) (eb : Nat) (l : List Int) (h : Heap) (m : Nat) (e : Env) (h' : Heap) : Prop :=
 ∃ (i : Nat) (av : CV), i ≤ l.length ∧ m = l.length - i ∧ e = [(0, v0), (3, .ptr eb 0), (5, av), (6, .int .i64 ((l.map sumC).take i).sum), (7, .int .i64 i)] ∧ Keep NoneOf h h' ∧ OwnL (.int .i64) h' NoneOf av (rev i) ∧ ∀ b, av.blk = some b → h.length ≤ b
def SmB (v0 : CV) (K : CoreB) (eb : Nat) (l : List Int) (h : Heap) (m : Nat) (e : Env) (h' : Heap) : Prop :=
 ∃ (t : Nat) (s : CoreS) (k : Nat) (asks : List Int) (av : CV) (A : Nat → Prop), (t : Int) ≤ (l.map sumC).sum + 1 ∧ m = (l.map sumC).sum.toNat + 1 - t ∧
  e = [(0, v0), (3, .ptr eb 0), (5, av), (6, .int .i64 (l.map sumC).sum), (8, .int .i64 k), (9, .int .i64 ((l.map sumC).take k).sum), (10, .int .i64 t)] ∧
  EngH K eb (runTs l) s h h' ∧ SimL l s asks k t ∧ Sl (.int .i64) h' A av asks ∧ ∀ y, A y → ¬ K.own y
def SmC (v0 : CV) (eb : Nat) (l : List Int) (EQ : List Ev) (qf : Nat × Int) (t : Nat) (v : CV) (h : Heap) (m : Nat) (e : Env) (h' : Heap) : Prop :=
 ∃ (i k : Nat), i ≤ EQ.length ∧ m = EQ.length - i ∧ chkL (l.map sumC) (l.map sumC).sum t (EQ.drop i) (k, ((l.map sumC).take k).sum) = some qf ∧ k ≤ l.length ∧
  e = [(0, v0), (3, .ptr eb 0), (5, .nils), (6, .int .i64 (l.map sumC).sum), (8, .int .i64 k), (9, .int .i64 ((l.map sumC).take k).sum), (10, .int .i64 t), (11, v), (13, .int .i64 i)] ∧ h' = h
theorem sum_le {l : List Int} (hx : ∀ x ∈ l, 0 ≤ x ∧ x ≤ 255) : ∀ i, i ≤ l.length → (i : Int) ≤ ((l.map sumC).take i).sum ∧ ((l.map sumC).take i).sum ≤ 20 * i
 | 0, _ => by simp
 | i + 1, h => by
   have hc : (l.map sumC)[i]? = some (sumC l[i]) := by simp [show i < l.length by omega]
   rw [sum_succ hc]
   have := sumC_le (hx l[i] (List.getElem_mem (by omega)))
   have := sum_le hx i (by omega)
   omega
theorem SimL.k_le {l : List Int} {s : CoreS} {asks : List Int} {k : Nat} {t : Int} (I : SimL l s asks k t) : k ≤ l.length := by
 obtain ⟨_, _, _, _, _, ⟨_, rfl, _⟩ | ⟨_, d, q, _⟩⟩ := I
 ·omega
 ·have := q.le; simpa using this
theorem engineSums_law (lp : LP p) (hpr : p.pr = addKnown [439] lib) {h : Heap} {v0 : CV} {l : List Int} (r0 : Read h 1 v0 (ints .u8 l)) (hx : ∀ x ∈ l, 0 ≤ x ∧ x ≤ 255) :
  WF p 472 [v0] h fun r h' => r = .bool true := by
 refine WF_of (by rw [lp.pg]; exact S.pg472) (lp.no' hpr ⟨rfl, rfl⟩) ?_
 show W p S.b472 _ _ (retQ [.t 2] _)
 unfold S.b472
 simp
 refine WF_known hpr rfl ?_
 have n0 := readI_len r0
 by_cases h1 : l.length < 1
 ·have : (l.length : Int) < 1 := by omega
  simp [n0, this]
 have h1' : ¬ (l.length : Int) < 1 := by omega
 by_cases h12 : 12 < l.length
 ·have : 12 < (l.length : Int) := by omega
  simp [n0, h1', this]
 have h12' : ¬ 12 < (l.length : Int) := by omega
 simp [n0, h1', h12']
 refine (run440 lp r0 hx (by omega)).mono ?_
 rintro r hA ⟨tv, rfl, k1, st⟩
 obtain ⟨ok1, ok2, ok3, hT⟩ := run_ok hx (by omega) (by omega)
 refine (new441 lp (x := runSet l) st.lt rfl rfl (fun b hb => hb.2) ok2 ok1 ok3).mono ?_
 rintro r h2 ⟨k2, eb, K, cells, Q, rfl, c2, eg, eo, eq, hel, hown⟩
 have hnp : eqv .p (.ptr eb 0) .nilp = some false := rfl
 have r2 := r0.keep (k1.trans k2) fun _ _ => id
 have hle2 : h.length ≤ h2.length := (k1.trans k2).len
 have hle1 := k1.len
 simp [hnp]
 refine W_loop (SmA v0 eb l h2) ?_ l.length ⟨0, .nils, by omega, by omega, rfl, Keep.refl _ _, OwnL.nil, by simp [CV.blk]⟩
 rintro m e h3 ⟨i, av, hi, rfl, rfl, k3, ow, hav⟩
 have r3 := r2.keep k3 fun _ _ => id
 have n3 := readI_len r3
 obtain ⟨sl1, sl2⟩ := sum_le hx i hi
 by_cases hie : i = l.length
 case neg =>
  have hlt : i < l.length := by omega
  have hlt' : (i : Int) < l.length := by omega
  have hxi := hx l[i] (List.getElem_mem hlt)
  obtain ⟨hs1, hs2⟩ := sumC_le hxi
  have hw : IntKind.i64.wrap ((i : Int) + 1) = ((i + 1 : Nat) : Int) := by rw [w64 (by omega) (by omega)]; omega
  have kA := Keep.app NoneOf h3 [.arr [.int .i64 (i : Int)] .tight]
  have owA := ow.on kA
  obtain ⟨cc, sp1, sp2⟩ := owA.sl.spread (by decide)
  have sp1 : spread (h3 ++ [.arr [.int .i64 (i : Int)] .tight]) 1 av = some (i, cc) := by
   have : spread (h3 ++ [.arr [.int .i64 (i : Int)] .tight]) 1 av = some ((rev i).length, cc) := sp1
   rwa [rev_length] at this
  have own1 : OwnL (.int .i64) (h3 ++ [.arr [.int .i64 (i : Int)] .tight]) NoneOf (.sl h3.length 0 1 1) [(i : Int)] := ⟨_, .inr ⟨h3.length, 1, .tight, rfl, rfl, .inl rfl, get_new⟩, rows_ints.2 rfl, fun _ _ => id⟩
  have f1 : fillC [.int .i64 0] [(0, 1, .int .i64 (i : Int))] = some [.int .i64 (i : Int)] := rfl
  simp [n3, hlt, hlt', f1, sp1]
  refine OV_pushes (e := .int .i64) own1 (m := rev i) (rows_ints.2 (rows_ints.1 sp2)) (by simp) (fun b hb => hb.elim) (by simp [big]) (by simp [big]; omega) (by decide) fun v' h4 o4 k4 hb4 => ?_
  have K4 : Keep NoneOf h2 h4 := (k3.trans kA).then k4 fun y hy e => by simp [CV.blk] at e; have := k3.len; omega
  obtain ⟨b0, o0, x1, x2, x3⟩ := readI_idx (k' := .i64) (r2.keep K4 fun _ _ => id) hlt
  have hc : (l.map sumC)[i]? = some (sumC l[i]) := by simp [hlt]
  have hss := sum_succ hc
  generalize ((l.map sumC).take i).sum = S at *
  have e1 : IntKind.i64.wrap (S + 1) = S + 1 := w64 (by omega) (by omega)
  have hwd : IntKind.i64.wrap (l[i].tmod 20) = l[i].tmod 20 := w64 (by unfold sumC at *; omega) (by unfold sumC at *; omega)
  have hwf : IntKind.u8.wrap (l[i].tmod 20) = l[i].tmod 20 := wrap_u8 (by unfold sumC at *; omega) (by unfold sumC at *; omega)
  have e2 : IntKind.i64.wrap (S + 1 + l[i].tmod 20) = ((l.map sumC).take (i + 1)).sum := by
   rw [hss, w64 (by unfold sumC at *; omega) (by unfold sumC at *; omega)]
   unfold sumC
   omega
  simp [x1, x3, e1, hwd, hwf, e2, hw]
  refine ⟨l.length - (i + 1), by omega, i + 1, v', by omega, rfl, rfl, K4, o4, fun b hb => ?_⟩
  have := k3.len
  rcases hb4 b hb with q | q
  ·simp [CV.blk] at q; omega
  ·simp at q; omega
 subst hie
 have htk : ((l.map sumC).take l.length).sum = (l.map sumC).sum := by rw [List.take_of_length_le (by simp)]
 rw [htk] at sl1 sl2 ⊢
 simp [n3]
 have hcs : ∀ c ∈ l.map sumC, 1 ≤ c ∧ c ≤ 20 := fun c hc => by
  obtain ⟨x, hx', rfl⟩ := List.mem_map.1 hc
  exact sumC_le (hx x hx')
 have hsim : SimL l ⟨List.replicate l.length deadJ, fun _ => none, 0, 0, 0⟩ (rev l.length) 0 ((0 : Nat) : Int) := by
  refine ⟨fun x hx => ?_, rfl, by simp, by simp, by simp; omega, .inl ⟨rfl, rfl, rfl, ⟨by simp, by simp, fun j x hj _ => ?_, fun j x c hj hc hk => ?_⟩, fun _ => rfl, rfl, rfl⟩⟩
  ·rw [List.eq_of_mem_replicate hx]; exact PlainJ.dead
  ·rw [List.eq_of_mem_replicate (List.mem_of_getElem? hj)]; rfl
  ·have := (List.getElem?_eq_some_iff.1 hj).1
   simp at this
   omega
 have c3 : CoreA K cells (runTs l) ⟨List.replicate l.length deadJ, fun _ => none, 0, 0, 0⟩ Q h3 := by
  have := c2.on k3
  simpa [runSet] using this
 refine W_loop (SmB v0 K eb l h) ?_ ((l.map sumC).sum.toNat + 1) ⟨0, _, 0, rev l.length, av, fun y => h2.length ≤ y, by omega, by omega, rfl, ⟨(k1.trans k2).trans k3, ⟨Q, cells, c3⟩, k3.at eg id, eo, fun y hy => by have := hown y hy; omega⟩, hsim, ow.sl.mono fun b hb => hb.elim False.elim fun e => hav b e, fun y hy o => by have := c2.own_lt y o; omega⟩
 rintro m e h4 ⟨t, s, k, asks, av4, A, ht, rfl, rfl, EH, I, sa, hA⟩
 obtain ⟨Q4, cells4, c4⟩ := EH.core
 have hkl := I.k_le
 have r4 := r0.keep EH.k fun _ _ => id
 have n4 := readI_len r4
 by_cases htt : (t : Int) ≤ (l.map sumC).sum
 case neg =>
  have hk : k = l.length := by
   obtain ⟨_, _, _, _, _, ⟨h0, _⟩ | ⟨_, d, q, ⟨c, hc, hd1, hd2, h3⟩ | ⟨h3, _⟩⟩⟩ := I
   ·omega
   ·have hs := sum_succ hc
    have hkl := (List.getElem?_eq_some_iff.1 hc).1
    have : ((l.map sumC).take (k + 1)).sum ≤ (l.map sumC).sum := by
     have e := List.sum_append (l₁ := (l.map sumC).take (k + 1)) (l₂ := (l.map sumC).drop (k + 1))
     rw [List.take_append_drop] at e
     have : ∀ (r : List Int), (∀ x ∈ r, 1 ≤ x ∧ x ≤ 20) → 0 ≤ r.sum := by
      intro r
      induction r with
      | nil => intro _; simp
      | cons x r ih =>
        intro hr
        have := hr x List.mem_cons_self
        have := ih fun y hy => hr y (List.mem_cons_of_mem _ hy)
        simp; omega
     have := this ((l.map sumC).drop (k + 1)) fun x hx => hcs x (List.mem_of_mem_drop hx)
     omega
    omega
   ·exact h3
  simp [htt, n4, hk]
 obtain ⟨n, s', E2, EQ, k', hF, hE2, hEQ, hEQl, hchk, I'⟩ := sim_step hx (by omega) (by omega) I hT htt
 obtain ⟨hp, hnow, hsq0, hsq1, hal, _⟩ := id I
 simp [htt]
 refine (tick442 lp c4 EH.eg EH.eo hp hT (by simp; omega) sa hA (by omega) (by omega) (by omega) hF hE2).mono ?_
 rintro r h5 ⟨v, rfl, ⟨k5, Q5, cells5, c5, q5⟩, ev5⟩
 rw [hEQ] at ev5
 have K5 : Keep NoneOf h h5 := EH.k.then k5 fun y hy o => by have := EH.own y o; omega
 have n5 := ev5.len (by decide)
 rw [List.length_map] at n5
 have hw : IntKind.i64.wrap ((t : Int) + 1) = ((t + 1 : Nat) : Int) := by rw [w64 (by omega) (by omega)]; omega
 have hkl' := I'.k_le
 simp
 refine W_loop (SmC v0 eb l EQ (k', ((l.map sumC).take k').sum) t v h5) ?_ EQ.length ⟨0, k, by omega, by omega, by simpa using hchk, hkl, rfl, rfl⟩
 rintro m e h6 ⟨i, a, hi, rfl, hck, ha, rfl, rfl⟩
 by_cases hie : i = EQ.length
 ·subst hie
  simp only [List.drop_length, chkL, Option.some.injEq, Prod.mk.injEq] at hck
  obtain ⟨rfl, _⟩ := hck
  simp [n5, hw]
  refine ⟨(l.map sumC).sum.toNat + 1 - (t + 1), by omega, t + 1, { s' with now := s.now + 1 }, a, [], .nils, NoneOf, by omega, rfl, rfl, ⟨K5, ⟨Q5, cells5, c5⟩, k5.at EH.eg EH.eo, EH.eo, EH.own⟩, by simpa using I', Sl.nil, fun y hy => hy.elim⟩
 ·have hlt : i < EQ.length := by omega
  have hlt' : (i : Int) < EQ.length := by omega
  have hw2 : IntKind.i64.wrap ((i : Int) + 1) = ((i + 1 : Nat) : Int) := by rw [w64 (by omega) (by omega)]; omega
  obtain ⟨b0, o0, row, x1, x2, x3, x4⟩ := ev5.row (k := .i64) (by decide) (i := i) (by simpa using hlt)
  have x1 : idxAddrV 7 v (.int .i64 (i : Int)) = some (.ptr b0 o0) := x1
  obtain ⟨x4, _, _⟩ := x4
  simp only [List.getElem_map] at x4
  have hdr : EQ.drop i = EQ[i] :: EQ.drop (i + 1) := List.drop_eq_getElem_cons hlt
  rw [hdr] at hck
  generalize EQ[i] = ev at x4 hck
  obtain ⟨T, kd, tk, er⟩ := ev
  have y0 : loadAt h6 b0 o0 none = some (.int .i64 T) := by have := x3 0 (by decide); rw [Nat.add_zero, x4] at this; exact this
  have y1 : loadAt h6 b0 (o0 + 1) none = some (.int .i64 kd) := by have := x3 1 (by decide); rw [x4] at this; exact this
  have y2 : loadAt h6 b0 (o0 + 2) none = some (.int .i64 tk) := by have := x3 2 (by decide); rw [x4] at this; exact this
  simp only [chkL, chkE] at hck
  have hnx : ∀ a' : Nat, chkL (l.map sumC) (l.map sumC).sum t (EQ.drop (i + 1)) (a', ((l.map sumC).take a').sum) = some (k', ((l.map sumC).take k').sum) → a' ≤ l.length →
    ∃ m', m' < EQ.length - i ∧ SmC v0 eb l EQ (k', ((l.map sumC).take k').sum) t v h6 m' [(0, v0), (3, .ptr eb 0), (5, .nils), (6, .int .i64 (l.map sumC).sum), (8, .int .i64 a'), (9, .int .i64 ((l.map sumC).take a').sum), (10, .int .i64 t), (11, v), (13, .int .i64 ((i + 1 : Nat) : Int))] h6 :=
   fun a' e1 e2 => ⟨EQ.length - (i + 1), by omega, i + 1, a', by omega, rfl, e1, e2, rfl, rfl⟩
  by_cases q6 : kd = 6
  ·subst q6
   simp only [if_true] at hck
   cases hc : (l.map sumC)[a]? with
   | none => simp only [hc] at hck; simp at hck
   | some c =>
   simp only [hc] at hck
   by_cases hcond : tk = (a : Int) ∧ T = ((l.map sumC).take a).sum + c
   case neg => rw [if_neg hcond] at hck; simp at hck
   rw [if_pos hcond] at hck
   obtain ⟨rfl, rfl⟩ := hcond
   have hal : a < l.length := by have := (List.getElem?_eq_some_iff.1 hc).1; simpa using this
   have hcv : c = sumC l[a] := by
    have : (l.map sumC)[a]? = some (sumC l[a]) := by simp [hal]
    rw [this] at hc
    exact (Option.some.inj hc).symm
   have hss := sum_succ hc
   obtain ⟨sa1, sa2⟩ := sum_le hx a ha
   obtain ⟨hs1, hs2⟩ := sumC_le (hx l[a] (List.getElem_mem hal))
   have r6 := r0.keep K5 fun _ _ => id
   have n6 := readI_len r6
   obtain ⟨b1, o1, z1, z2, z3⟩ := readI_idx (k' := .i64) r6 hal
   have hnx' := hnx (a + 1) (by rw [hss]; simpa using hck) hal
   rw [hss] at hnx'
   have ha' : ¬ (l.length : Int) ≤ a := by omega
   have hwa : IntKind.i64.wrap ((a : Int) + 1) = ((a + 1 : Nat) : Int) := by rw [w64 (by omega) (by omega)]; omega
   have hwd : IntKind.i64.wrap (l[a].tmod 20) = l[a].tmod 20 := w64 (by unfold sumC at *; omega) (by unfold sumC at *; omega)
   have hwf : IntKind.u8.wrap (l[a].tmod 20) = l[a].tmod 20 := wrap_u8 (by unfold sumC at *; omega) (by unfold sumC at *; omega)
   generalize ((l.map sumC).take a).sum = S at *
   have e1 : IntKind.i64.wrap (S + 1) = S + 1 := w64 (by omega) (by omega)
   have e2 : IntKind.i64.wrap (S + 1 + l[a].tmod 20) = S + c := by
    rw [w64 (by unfold sumC at *; omega) (by unfold sumC at *; omega), hcv]
    unfold sumC
    omega
   simp [n5, hlt, hlt', x1, y0, y1, y2, n6, ha', z1, z3, e1, hwd, hwf, e2, hwa, hw2]
   exact hnx'
  ·by_cases q3 : kd = 3
   ·subst q3
    simp only [q6, if_true, if_false] at hck
    by_cases hcond : tk = (a : Int)
    case neg => rw [if_neg hcond] at hck; simp at hck
    rw [if_pos hcond] at hck
    subst hcond
    simp [n5, hlt, hlt', x1, y0, y1, y2, hw2]
    exact hnx a (by simpa using hck) ha
   ·by_cases q8 : kd = 8
    ·subst q8
     simp only [q6, q3, if_true, if_false] at hck
     by_cases hcond : (t : Int) = (l.map sumC).sum
     case neg => rw [if_neg hcond] at hck; simp at hck
     rw [if_pos hcond] at hck
     simp [n5, hlt, hlt', x1, y0, y1, y2, hw2, hcond]
     have q := hnx a (by simpa using hck) ha
     simp only [hcond] at q
     simpa using q
    ·simp only [q6, q3, q8, if_false] at hck
     simp [n5, hlt, hlt', x1, y0, y1, y2, hw2, q6, q3, q8]
     exact hnx a (by simpa using hck) ha
end Go.Cl
