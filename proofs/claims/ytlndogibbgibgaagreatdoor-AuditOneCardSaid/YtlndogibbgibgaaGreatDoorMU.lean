/-
  Texts laid together: AXP AXQ.
-/
import Derived.Test.YtlndogibbgibgaaGreatDoorMT1
namespace Go.Cl
open Go
set_option linter.unusedSimpArgs false
set_option linter.unusedVariables false
set_option maxHeartbeats 1000000
variable {p p' : PP} {K : CoreW} {cells : List CV} {X : SetV} {s : CoreX} {Q : Nat → Prop} {h h' : Heap}
structure TkX (K : CoreW) (eb : Nat) (X : SetV) (Q0 : Nat → Prop) (h0 : Heap) (s : CoreX) (ov : CV) (evs : List (List CV)) (h' : Heap) : Prop where
 keep : Keep K.own h0 h'
 core : ∃ Q cells, CoreV K cells X s Q h' ∧ (∀ y, Q y → Q0 y ∨ h0.length ≤ y) ∧ ∀ b, ov.blk = some b → ¬ Q b
 out : OwnL evtC h' NoneOf ov evs
 ob : ∀ b, ov.blk = some b → h0.length ≤ b
 own : ∀ y, K.own y → y < h0.length
 eg : h'[eb]? = some (.arr [.ptr K.b 0] .tight)
 eo : ¬ K.own eb ∧ eb < h0.length
theorem TkX.start {eb : Nat} (c : CoreV K cells X s Q h) (eg : h[eb]? = some (.arr [.ptr K.b 0] .tight)) (eo : ¬ K.own eb) : TkX K eb X Q h s .nils [] h :=
 ⟨Keep.refl _ _, ⟨Q, cells, c, fun y => .inl, by simp [CV.blk]⟩, OwnL.nil, by simp [CV.blk], c.own_lt, eg, eo, lt_of_get eg⟩
theorem TkX.next {eb : Nat} {Q0 : Nat → Prop} {h0 h1 h2 : Heap} {ov : CV} {evs : List (List CV)} {s' : CoreX} (t : TkX K eb X Q0 h0 s ov evs h1) (c : CoreV K cells X s Q h1) (q1 : ∀ y, Q y → Q0 y ∨ h0.length ≤ y) (q2 : ∀ b, ov.blk = some b → ¬ Q b) (n : CoreU K X s' Q h1 h2) :
  TkX K eb X Q0 h0 s' ov evs h2 := by
 obtain ⟨k, Q', cs, c', q⟩ := n
 have ho : ∀ b, ov.blk = some b → ¬ K.own b := fun b hb o => by have := t.ob b hb; have := t.own b o; omega
 refine ⟨t.keep.trans k, ⟨Q', cs, c', fun y hy => ?_, fun b hb hq => ?_⟩, t.out.keep k ho fun b hb => hb.elim, t.ob, t.own, k.at t.eg t.eo.1, t.eo⟩
 ·rcases q y hy with q | q
  ·exact q1 y q
  ·have := t.keep.len; exact .inr (by omega)
 ·rcases q b hq with q | q
  ·exact q2 b hb q
  ·have := t.out.blk b hb; omega
theorem TkX.on {eb : Nat} {Q0 : Nat → Prop} {h0 h1 h2 : Heap} {ov : CV} {evs : List (List CV)} (t : TkX K eb X Q0 h0 s ov evs h1) (k : Keep NoneOf h1 h2) : TkX K eb X Q0 h0 s ov evs h2 := by
 obtain ⟨Q, cs, c, q1, q2⟩ := t.core
 exact ⟨t.keep.trans (k.mono fun _ _ => False.elim), ⟨Q, cs, c.on k, q1, q2⟩, t.out.on k, t.ob, t.own, k.at t.eg id, t.eo⟩
theorem TkX.app {eb : Nat} {Q0 P : Nat → Prop} {h0 h1 h2 : Heap} {ov : CV} {evs m : List (List CV)} {ys : List CV} {k : Nat} {Z : CV × Heap → Prop} (t : TkX K eb X Q0 h0 s ov evs h1) (r : Rows evtC h2 P ys m) (hk : k = m.length) (he : evs.length ≤ big) (hm : m.length ≤ big)
  (kk : ∀ ov' h3, TkX K eb X Q0 h0 s ov' (evs ++ m) h3 → Keep (fun b => ov.blk = some b) h1 h3 → Z (ov', h3)) : OV (appendTo h1 7 ov k ys) Z := by
 refine OV_pushes (e := evtC) t.out (evtRows r) hk (fun b hb => hb.elim) he hm (by decide) fun v' h3 o3 k3 hb3 => ?_
 obtain ⟨Q, cs, c, q1, q2⟩ := t.core
 have hl := t.keep.len
 have ho : ∀ b, ov.blk = some b → ¬ K.own b := fun b hb o => by have := t.ob b hb; have := t.own b o; omega
 refine kk v' h3 ⟨t.keep.then k3 fun y hy e => by have := t.ob y e; omega, ⟨Q, cs, c.keep k3 fun y e => ⟨ho y e, q2 y e⟩, q1, fun b hb hq => ?_⟩, o3, fun b hb => ?_, t.own, k3.at t.eg fun e => by have := t.ob _ e; have := t.eo.2; omega, t.eo⟩ k3
 ·rcases hb3 b hb with e | e
  ·exact q2 b e hq
  ·have := (c.hQ b hq).1; omega
 ·rcases hb3 b hb with e | e
  ·exact t.ob b e
  ·omega
theorem TkX.done {eb : Nat} {h0 h1 : Heap} {ov : CV} {evs : List (List CV)} (t : TkX K eb X Q h0 s ov evs h1) : CoreU K X s Q h0 h1 ∧ Sl evtC h1 (From h0) ov evs := by
 obtain ⟨Q', cs, c, q1, q2⟩ := t.core
 exact ⟨⟨t.keep, Q', cs, c, q1⟩, t.out.sl.mono fun b hb => hb.elim False.elim fun e => t.ob b e⟩
structure Fit (X : SetV) (s : CoreX) : Prop where
 well : WellX X s
 own : (s.own.length : Int) = X.locks
theorem Fit.lb (q : Fit X s) (c : CoreV K cells X s Q h) : (K.lb.length : Int) = X.locks := by rw [c.ll]; exact q.own
theorem Fit.held (q : Fit X s) {i : Nat} {z : JobV} (hz : s.jobs[i]? = some z) : z.flat.length ≤ 1000 ∧ z.held.length ≤ big := by
 have w := q.well i z hz
 have := w.heldl; have := w.pc; have := w.flat
 exact ⟨w.flat, by simp [big]; omega⟩
theorem Fit.op (q : Fit X s) {i : Nat} {bh : Bool} {s' : CoreX} {ev : List (List CV)} (ho : opSX s i bh = some (s', ev)) : Fit X s' ∧ s'.now = s.now := by
 obtain ⟨a, b, _, d, _⟩ := op_well q.well q.own ho
 exact ⟨⟨a, by rw [b]; exact q.own⟩, d⟩
theorem Fit.tick (q : Fit X s) {i : Nat} {z : JobV} (hz : s.jobs[i]? = some z) (hl : z.left ≠ 0) : Fit X (tickS s i z).1 ∧ (tickS s i z).1.now = s.now := by
 obtain ⟨a, b, _, d, _⟩ := tickS_well q.well hz hl
 exact ⟨⟨a, by rw [b]; exact q.own⟩, d⟩
def behindX (X : SetV) : Nat → CoreX → Option (CoreX × List (List CV))
 | 0, _ => none
 | n + 1, s => match topJ X s.jobs with
   | none => some (s, [])
   | some i => match s.jobs[i]? with
     | none => none
     | some x => if x.left ≠ 0 then some (s, []) else
       match opSX s i true with
       | none => none
       | some (s1, e1) => match behindX X n s1 with
         | none => none
         | some (s2, e2) => some (s2, e1 ++ e2)
theorem topJ_lt {jobs : List JobV} {i : Nat} (h : topJ X jobs = some i) : i < jobs.length := (topTX_some h).1
def BeX (eb : Nat) (X : SetV) (K : CoreW) (Q0 : Nat → Prop) (h0 : Heap) (now : Int) (s' : CoreX) (E : List (List CV)) (m : Nat) (e : Env) (h' : Heap) : Prop :=
 ∃ s ov evs rest, behindX X m s = some (s', rest) ∧ E = evs ++ rest ∧ Fit X s ∧ s.now = now ∧ TkX K eb X Q0 h0 s ov evs h' ∧ e = [(0, .ptr eb 0), (3, ov)]
theorem behindW (la : LA p p') {eb n : Nat} {s' : CoreX} {E : List (List CV)} (c : CoreV K cells X s Q h) (eg : h[eb]? = some (.arr [.ptr K.b 0] .tight)) (eo : ¬ K.own eb) (hp : Fit X s) (hn : X.tasks.length ≤ 12) (h8 : X.locks ≤ 1000) (hw : IntKind.i64.wrap (s.now + 1) = s.now + 1)
  (hF : behindX X n s = some (s', E)) (hE : E.length ≤ big) :
  WF p 450 [.ptr eb 0] h fun r h' => CoreU K X s' Q h h' ∧ Sl evtC h' (From h) r E := by
 have lp := la.lp
 refine WF_of (by rw [lp.pg]; exact S.pg450) (lp.no ⟨rfl, rfl⟩) ?_
 show W p S.b450 _ _ (retQ [.t 2] _)
 unfold S.b450
 simp
 refine W_loop (BeX eb X K Q h s.now s' E) ?_ n ⟨s, .nils, [], E, hF, rfl, hp, rfl, TkX.start c eg eo, rfl⟩
 rintro m e h1 ⟨s1, ov, evs, rest, hF1, rfl, hp1, hnow, t1, rfl⟩
 obtain ⟨Q1, cs, c1, q1, q2⟩ := t1.core
 have lE := ld t1.eg
 simp [lE]
 have hlk1 := hp1.lb c1
 refine (topX lp c1 hn (by omega) hp1.well.heldOk).mono ?_
 rintro r h2 ⟨rfl, k2⟩
 have t2 := t1.on k2
 have c2 := c1.on k2
 have lE2 := ld t2.eg
 cases m with
 | zero => simp [behindX] at hF1
 | succ m =>
 simp only [behindX] at hF1
 cases ht : topJ X s1.jobs with
 | none =>
   rw [ht] at hF1
   simp at hF1
   obtain ⟨rfl, rfl⟩ := hF1
   simp [topI]
   exact t2.done
 | some i =>
   have hij := topJ_lt ht
   have hil : i < X.tasks.length := by rw [c1.jl] at hij; exact hij
   obtain ⟨x, hx⟩ : ∃ x, s1.jobs[i]? = some x := ⟨_, List.getElem?_eq_getElem hij⟩
   obtain ⟨pf, ph⟩ := hp1.held hx
   simp only [ht, hx] at hF1
   simp [topI_some, lE2]
   refine (jobX lp c2 hil hx pf ph).mono ?_
   rintro r h3 ⟨d, rfl, dl, d0, d3, k3⟩
   have t3 := t2.on k3
   have c3 := c2.on k3
   have lE3 := ld t3.eg
   have hp3 : partOf d 3 none = some (.int .i64 x.left) := d3
   by_cases hlf : x.left = 0
   case neg =>
    rw [if_pos hlf] at hF1
    simp at hF1
    obtain ⟨rfl, rfl⟩ := hF1
    simp [hp3, hlf]
    exact t3.done
   rw [if_neg (by simp [hlf])] at hF1
   simp [hp3, hlf, lE3]
   cases ho : opSX s1 i true with
   | none => rw [ho] at hF1; simp at hF1
   | some q =>
   obtain ⟨s2, e1⟩ := q
   rw [ho] at hF1
   simp only at hF1
   cases hb2 : behindX X m s2 with
   | none => rw [hb2] at hF1; simp at hF1
   | some q2 =>
   obtain ⟨s3, e2⟩ := q2
   rw [hb2] at hF1
   simp at hF1
   obtain ⟨rfl, rfl⟩ := hF1
   refine (opX la c3 hn hlk1 (by omega) hp1.well hil ho (by rw [hnow]; exact hw)).mono ?_
   rintro r h4 ⟨v, rfl, n4, ev4⟩
   have t4 := t3.next c3 q1 q2 n4
   obtain ⟨hp2, hnow2⟩ := hp1.op ho
   simp at hE
   obtain ⟨cc, sp1, sp2⟩ := ev4.spread (by decide)
   have sp1 : spread h4 7 v = some (e1.length, cc) := sp1
   simp [sp1]
   refine t4.app (m := e1) sp2 rfl (by omega) (by omega) fun ov' h5 t5 _ => ?_
   simp
   exact ⟨m, by omega, s2, ov', evs ++ e1, e2, hb2, by simp, hp2, by rw [hnow2, hnow], t5, rfl⟩
def askIX (X : SetV) (s : CoreX) (i : Int) : CoreX × List CV :=
 if askErrX X s i = 0 then (askSX X s i.toNat, evt s.now 1 i 0) else (s, evt s.now 2 i (askErrX X s i))
def askLX (X : SetV) : List Int → CoreX → CoreX × List (List CV)
 | [], s => (s, [])
 | i :: r, s => ((askLX X r (askIX X s i).1).1, (askIX X s i).2 :: (askLX X r (askIX X s i).1).2)
theorem askErrX_in {i : Int} (he : askErrX X s i = 0) : 0 ≤ i ∧ i < X.tasks.length := by
 unfold askErrX askE at he
 split at he
 ·simp at he
 ·rename_i hh
  simp at hh
  omega
theorem askW (lp : LP p) (c : CoreV K cells X s Q h) (i : Int) (ht : TasksOk X.tasks) (hs : IntKind.i64.wrap (s.seq + 1) = s.seq + 1) :
  WF p 306 [.ptr K.b 0, .int .i64 i] h fun r h' => r = .agg (askIX X s i).2 ∧ CoreU K X (askIX X s i).1 Q h h' := by
 by_cases he : askErrX X s i = 0
 ·obtain ⟨i0, i1⟩ := askErrX_in he
  obtain ⟨n, rfl⟩ : ∃ n : Nat, i = n := ⟨i.toNat, by omega⟩
  have hn : n < X.tasks.length := by omega
  have := ht _ (List.getElem_mem hn)
  simp only [askIX, he, if_true, Int.toNat_natCast]
  exact askX_yes lp c hn he hs (by simp [big]; omega) this.2
 ·simp only [askIX, he, if_false]
  exact askX_no lp c i he
theorem askIX_len {i : Int} : (askIX X s i).2.length = 7 := by unfold askIX; split <;> rfl
theorem askIX_flat {i : Int} : (askIX X s i).2.all CV.scalar = true := by unfold askIX; split <;> rfl
theorem askIX_now {i : Int} : (askIX X s i).1.now = s.now := by
 unfold askIX
 split
 ·unfold askSX; split <;> rfl
 ·rfl
theorem askIX_seq {i : Int} : s.seq ≤ (askIX X s i).1.seq ∧ (askIX X s i).1.seq ≤ s.seq + 1 := by
 unfold askIX
 split
 ·unfold askSX; split
  ·simp; omega
  ·simp; omega
 ·simp; omega
theorem askIX_fit {i : Int} (q : Fit X s) (ht : TasksOk X.tasks) : Fit X (askIX X s i).1 := by
 unfold askIX
 split
 ·unfold askSX
  split
  ·rename_i t ht'
   have w := q.well.put (i := i.toNat) (z := newF t.prog t.bud s.now (s.seq + 1)) (own := s.own) ⟨rfl, (ht t (List.mem_of_getElem? ht')).1, ⟨by simp [newF], by simp [newF]⟩, fun h => absurd rfl h, by simp [newF], by simp [newF], by simp [newF]⟩ fun l j _ ho => ho
   exact ⟨fun j y hy => w j y hy, q.own⟩
  ·exact q
 ·exact q
theorem askLX_fit : ∀ {a : List Int} {s : CoreX}, Fit X s → TasksOk X.tasks → Fit X (askLX X a s).1
 | [], s, q, _ => q
 | i :: r, s, q, ht => by simp only [askLX]; exact askLX_fit (askIX_fit q ht) ht
def loopX (X : SetV) : Nat → CoreX → Option (CoreX × List (List CV))
 | 0, _ => none
 | n + 1, s => match topJ X s.jobs with
   | none => some (s, [evt s.now 8 0 0])
   | some i => match s.jobs[i]? with
     | none => none
     | some x => if x.left ≠ 0 then
       match behindX X n (tickS s i x).1 with
       | none => none
       | some (s2, e2) => some (s2, (tickS s i x).2 ++ e2)
       else match opSX s i false with
        | none => none
        | some (s1, e1) => match loopX X n s1 with
          | none => none
          | some (s2, e2) => some (s2, e1 ++ e2)
theorem behindX_fit : ∀ {n : Nat} {s s' : CoreX} {e : List (List CV)}, Fit X s → behindX X n s = some (s', e) → Fit X s' ∧ s'.now = s.now
 | 0, s, s', e, _, h => by simp [behindX] at h
 | n + 1, s, s', e, q, h => by
   simp only [behindX] at h
   split at h
   ·simp at h; rw [← h.1]; exact ⟨q, rfl⟩
   ·split at h
    ·simp at h
    ·split at h
     ·simp at h; rw [← h.1]; exact ⟨q, rfl⟩
     ·split at h
      ·simp at h
      ·rename_i s1 e1 ho
       split at h
       ·simp at h
       ·rename_i s2 e2 hb
        simp at h
        obtain ⟨q1, n1⟩ := q.op ho
        obtain ⟨q2, n2⟩ := behindX_fit q1 hb
        rw [← h.1]
        exact ⟨q2, by rw [n2, n1]⟩
def AkX (eb : Nat) (X : SetV) (K : CoreW) (Q0 : Nat → Prop) (h0 : Heap) (av : CV) (asks : List Int) (s0 s' : CoreX) (E : List (List CV)) (m : Nat) (e : Env) (h' : Heap) : Prop :=
 ∃ (i : Nat) (s : CoreX) (ov : CV) (evs : List (List CV)), i ≤ asks.length ∧ m = asks.length - i ∧ s' = (askLX X (asks.drop i) s).1 ∧ E = evs ++ (askLX X (asks.drop i) s).2 ∧ Fit X s ∧ s.now = s0.now ∧ s.seq ≤ s0.seq + i ∧ s0.seq ≤ s.seq ∧ evs.length = i ∧
  TkX K eb X Q0 h0 s ov evs h' ∧ e = [(0, .ptr eb 0), (6, ov), (22, av), (23, .int .i64 asks.length), (24, .int .i64 i)]
def LoX (eb : Nat) (X : SetV) (K : CoreW) (Q0 : Nat → Prop) (h0 : Heap) (now : Int) (s' : CoreX) (E : List (List CV)) (m : Nat) (e : Env) (h' : Heap) : Prop :=
 ∃ s ov evs rest, loopX X m s = some (s', rest) ∧ E = evs ++ rest ∧ Fit X s ∧ s.now = now ∧ TkX K eb X Q0 h0 s ov evs h' ∧ e = [(0, .ptr eb 0), (6, ov)]
theorem tickW (la : LA p p') {eb n : Nat} {s' : CoreX} {E2 : List (List CV)} {av : CV} {asks : List Int} {A : Nat → Prop} (c : CoreV K cells X s Q h) (eg : h[eb]? = some (.arr [.ptr K.b 0] .tight)) (eo : ¬ K.own eb) (hp : Fit X s) (ht : TasksOk X.tasks) (hn : X.tasks.length ≤ 12) (hk8 : X.locks ≤ 1000)
  (ha : Sl (.int .i64) h A av asks) (hA : ∀ y, A y → ¬ K.own y) (hal : asks.length ≤ 64) (hnow : 0 ≤ s.now ∧ s.now < 1099511627776) (hseq : 0 ≤ s.seq ∧ s.seq < 1099511627776)
  (hF : loopX X n (askLX X asks s).1 = some (s', E2)) (hE : E2.length ≤ 1000) :
  WF p 442 [.ptr eb 0, av] h fun r h' => ∃ v, r = .tup [v, .int .i64 0] ∧ CoreU K X { s' with now := s.now + 1 } Q h h' ∧ Sl evtC h' (From h) v ((askLX X asks s).2 ++ E2) := by
 have lp := la.lp
 refine WF_of (by rw [lp.pg]; exact S.pg442) (lp.no ⟨rfl, rfl⟩) ?_
 show W p S.b442 _ _ (retQ [.t 4, .t 5] _)
 unfold S.b442
 have lE := ld eg
 have hw : IntKind.i64.wrap (s.now + 1) = s.now + 1 := w64 (by omega) (by omega)
 simp [lE]
 refine (nowX lp c).mono ?_
 rintro r h1 ⟨rfl, rfl⟩
 have nA := ha.len (by decide)
 have hnow' : ¬ (1099511627776 ≤ s.now) := by omega
 have hal' : ¬ (64 < (asks.length : Int)) := by omega
 simp [hnow', nA, hal']
 refine W_loop (AkX eb X K Q h1 av asks s (askLX X asks s).1 (askLX X asks s).2) ?_ asks.length ⟨0, s, .nils, [], by omega, by omega, rfl, rfl, hp, rfl, by omega, by omega, rfl, TkX.start c eg eo, rfl⟩
 rintro m e h2 ⟨i, s1, ov, evs, hi, rfl, hs', hE', hp1, hnow1, hsq1, hsq2, hevl, t1, rfl⟩
 obtain ⟨Q1, cs, c1, q1, q2⟩ := t1.core
 have lE1 := ld t1.eg
 by_cases hie : i = asks.length
 ·subst hie
  simp only [List.drop_length, askLX, List.append_nil] at hs' hE'
  subst hs'
  rw [hE']
  simp [lE1]
  refine (expireX lp c1).mono ?_
  rintro r h3 ⟨rfl, rfl⟩
  have sp0 : spread h3 7 .nils = some (0, []) := rfl
  simp [sp0]
  refine t1.app (h2 := h3) (P := NoneOf) (m := []) Rows.nil rfl (by simp [big]; omega) (by simp) fun ov1 h4 t4 _ => ?_
  simp
  refine W_loop (LoX eb X K Q h1 s.now s' (evs ++ E2)) ?_ n ⟨(askLX X asks s).1, ov1, evs, E2, hF, rfl, hp1, hnow1, by simpa using t4, rfl⟩
  rintro m e h5 ⟨s2, ov2, evs2, rest, hF2, hE2, hp2, hnow2, t5, rfl⟩
  have hbE : evs2.length + rest.length ≤ 1064 := by
   have := congrArg List.length hE2
   simp at this
   omega
  have hbg : 1064 ≤ big := by simp [big]
  obtain ⟨Q5, cs5, c5, r1, r2⟩ := t5.core
  have lE5 := ld t5.eg
  have fin : ∀ ov6 h6, TkX K eb X Q h1 s' ov6 (evs ++ E2) h6 → s'.now = s.now → WF p 316 [.ptr K.b 0] h6 fun r h7 => CoreU K X { s' with now := s.now + 1 } Q h1 h7 ∧ Sl evtC h7 (From h1) ov6 (evs ++ E2) := by
   intro ov6 h6 t6 hn6
   obtain ⟨Q6, cs6, c6, u1, u2⟩ := t6.core
   refine (goX lp c6 (by rw [hn6]; exact hw)).mono ?_
   intro r h7 n7
   rw [hn6] at n7
   exact (t6.next c6 u1 u2 n7).done
  simp [lE5]
  have hlk2 := hp2.lb c5
  refine (topX lp c5 hn (by omega) hp2.well.heldOk).mono ?_
  rintro r h6 ⟨rfl, k6⟩
  have t6 := t5.on k6
  have c6 := c5.on k6
  have lE6 := ld t6.eg
  cases m with
  | zero => simp [loopX] at hF2
  | succ m =>
  simp only [loopX] at hF2
  cases htp : topJ X s2.jobs with
  | none =>
    simp only [htp] at hF2
    simp at hF2
    obtain ⟨rfl, rfl⟩ := hF2
    simp [topI, lE6]
    refine (nowX lp c6).mono ?_
    rintro r h7 ⟨rfl, rfl⟩
    have t8 := t6.on (Keep.app NoneOf h7 [.arr (evt s2.now 8 0 0) .tight])
    obtain ⟨cc, sp1, sp2⟩ := (evtC_one (h := h7) (x := evt s2.now 8 0 0) rfl rfl).spread (by decide)
    have sp1 : spread (h7 ++ [.arr (evt s2.now 8 0 0) .tight]) 7 (.sl h7.length 0 1 1) = some (1, cc) := sp1
    simp [evt_fill2, evFill (ev := evt s2.now 8 0 0) rfl, sp1]
    refine t8.app (m := [evt s2.now 8 0 0]) sp2 rfl (by omega) (by simp; omega) fun ov' h9 t9 _ => ?_
    have lE9 := ld t9.eg
    simp [lE9]
    rw [← hE2] at t9
    refine (fin _ _ t9 hnow2).mono ?_
    rintro r h10 q
    simpa using q
  | some i =>
    have hij := topJ_lt htp
    have hil : i < X.tasks.length := by rw [c5.jl] at hij; exact hij
    obtain ⟨x, hx⟩ : ∃ x, s2.jobs[i]? = some x := ⟨_, List.getElem?_eq_getElem hij⟩
    obtain ⟨pf, ph⟩ := hp2.held hx
    simp only [htp, hx] at hF2
    simp [topI_some, lE6]
    refine (jobX lp c6 hil hx pf ph).mono ?_
    rintro r h7 ⟨d, rfl, dl, d0, d3, k7⟩
    have hp3 : partOf d 3 none = some (.int .i64 x.left) := d3
    have t7 := t6.on k7
    have c7 := c6.on k7
    have lE7 := ld t7.eg
    by_cases hlf : x.left = 0
    ·rw [if_neg (by simp [hlf])] at hF2
     simp [hp3, hlf, lE7]
     cases ho : opSX s2 i false with
     | none => rw [ho] at hF2; simp at hF2
     | some q =>
     obtain ⟨s3, e1⟩ := q
     rw [ho] at hF2
     simp only at hF2
     cases hb2 : loopX X m s3 with
     | none => rw [hb2] at hF2; simp at hF2
     | some q2 =>
     obtain ⟨s4, e2⟩ := q2
     rw [hb2] at hF2
     simp at hF2
     obtain ⟨rfl, rfl⟩ := hF2
     refine (opX la c7 hn hlk2 (by omega) hp2.well hil ho (by rw [hnow2]; exact hw)).mono ?_
     rintro r h8 ⟨v, rfl, n8, ev8⟩
     have t8 := t7.next c7 r1 r2 n8
     obtain ⟨hp8, hnow8⟩ := hp2.op ho
     obtain ⟨cc, sp1, sp2⟩ := ev8.spread (by decide)
     have sp1 : spread h8 7 v = some (e1.length, cc) := sp1
     simp at hbE
     simp [sp1]
     refine t8.app (m := e1) sp2 rfl (by omega) (by omega) fun ov' h9 t9 _ => ?_
     simp
     exact ⟨m, by omega, s3, ov', evs2 ++ e1, e2, hb2, by rw [hE2]; simp, hp8, by rw [hnow8, hnow2], t9, rfl⟩
    ·rw [if_pos hlf] at hF2
     simp [hp3, hlf, lE7]
     cases hb2 : behindX X m (tickS s2 i x).1 with
     | none => rw [hb2] at hF2; simp at hF2
     | some q2 =>
     obtain ⟨s3, e2⟩ := q2
     rw [hb2] at hF2
     simp at hF2
     obtain ⟨rfl, rfl⟩ := hF2
     have hlive : x.live = true := by
      obtain ⟨_, y, hy, hyl, _⟩ := topTX_some htp
      rw [hx] at hy
      rw [Option.some.inj hy]; exact hyl
     refine (tickX la c7 hn hlk2 (by omega) hp2.well hil hx hlive hlf (by rw [hnow2]; exact hw)).mono ?_
     rintro r h8 ⟨n8, ev8⟩
     have t8 := t7.next c7 r1 r2 n8
     obtain ⟨cc, sp1, sp2⟩ := ev8.spread (by decide)
     have sp1 : spread h8 7 r = some ((tickS s2 i x).2.length, cc) := sp1
     obtain ⟨hp3', hn3⟩ := hp2.tick hx hlf
     simp at hbE
     simp [sp1]
     refine t8.app (m := (tickS s2 i x).2) sp2 rfl (by omega) (by omega) fun ov' h9 t9 _ => ?_
     obtain ⟨Q9, cs9, c9, u1, u2⟩ := t9.core
     simp
     refine (behindW la c9 t9.eg t9.eo.1 hp3' hn hk8 (by rw [hn3, hnow2]; exact hw) hb2 (by omega)).mono ?_
     rintro r h10 ⟨n10, ev10⟩
     have t10 := t9.next c9 u1 u2 n10
     obtain ⟨cc, sp1, sp2⟩ := ev10.spread (by decide)
     have sp1 : spread h10 7 r = some (e2.length, cc) := sp1
     simp [sp1]
     refine t10.app (m := e2) sp2 rfl (by simp; omega) (by omega) fun ov' h11 t11 _ => ?_
     have lE11 := ld t11.eg
     simp [lE11]
     have t11 : TkX K eb X Q h1 s3 ov' (evs ++ E2) h11 := by
      rw [hE2]
      simpa using t11
     refine (fin _ _ t11 (by rw [(behindX_fit hp3' hb2).2, hn3]; exact hnow2)).mono ?_
     rintro r h12 q
     simpa using q
 ·have hlt : i < asks.length := by omega
  have hlt' : (i : Int) < asks.length := by omega
  obtain ⟨b0, o0, row, x1, x2, x3, x4⟩ := (ha.keep t1.keep hA).row (k := .i64) (by decide) hlt
  have x1 : idxAddrV 1 av (.int .i64 (i : Int)) = some (.ptr b0 o0) := x1
  have x4 : row = [.int .i64 asks[i]] := x4
  have y := x3 0 (by decide)
  rw [x4, Nat.add_zero] at y
  simp at y
  have hw2 : IntKind.i64.wrap ((i : Int) + 1) = ((i + 1 : Nat) : Int) := by rw [w64 (by omega) (by omega)]; omega
  simp [hlt, hlt', x1, y, lE1]
  refine (askW lp c1 asks[i] ht (w64 (by omega) (by omega))).mono ?_
  rintro r h3 ⟨rfl, n3⟩
  have t3 := t1.next c1 q1 q2 n3
  have el := askIX_len (X := X) (s := s1) (i := asks[i])
  have ef := askIX_flat (X := X) (s := s1) (i := asks[i])
  have hnw := askIX_now (X := X) (s := s1) (i := asks[i])
  have hsq := askIX_seq (X := X) (s := s1) (i := asks[i])
  have hpl := askIX_fit (i := asks[i]) hp1 ht
  have hdr : asks.drop i = asks[i] :: asks.drop (i + 1) := List.drop_eq_getElem_cons hlt
  rw [hdr] at hs' hE'
  simp only [askLX] at hs' hE'
  generalize askIX X s1 asks[i] = q at *
  obtain ⟨s2, ev⟩ := q
  simp only at *
  have t4 := t3.on (Keep.app NoneOf h3 [.arr ev .tight])
  obtain ⟨cc, sp1, sp2⟩ := (evtC_one (h := h3) el ef).spread (by decide)
  have sp1 : spread (h3 ++ [.arr ev .tight]) 7 (.sl h3.length 0 1 1) = some (1, cc) := sp1
  simp [evFill el, sp1]
  refine t4.app (m := [ev]) sp2 rfl (by simp [big]; omega) (by simp [big]) fun ov' h5 t5 _ => ?_
  simp [hw2]
  exact ⟨asks.length - (i + 1), by omega, i + 1, s2, ov', evs ++ [ev], by omega, rfl, hs', by rw [hE']; simp, hpl, by rw [hnw, hnow1], by omega, by omega, by simp; omega, t5, rfl⟩
end Go.Cl
