/-
  Texts laid together: AEnL AEnM AEnN AEnO.
-/
import Derived.Test.YtjlcfkdkongmmaaGreatDoorMI
namespace Go.Cl
open Go
set_option linter.unusedSimpArgs false
set_option linter.unusedVariables false
set_option maxHeartbeats 1000000
variable {p : PP} {K : CoreB} {cells : List CV} {l : List TaskV} {s : CoreS} {Q : Nat → Prop} {h h' : Heap}
theorem evtRows {h h' : Heap} {P P' : Nat → Prop} {c : List CV} {m : List (List CV)} (r : Rows evtC h P c m) : Rows evtC h' P' c m := r
structure TkI (K : CoreB) (eb : Nat) (l : List TaskV) (Q0 : Nat → Prop) (h0 : Heap) (s : CoreS) (ov : CV) (evs : List (List CV)) (h' : Heap) : Prop where
 keep : Keep K.own h0 h'
 core : ∃ Q cells, CoreA K cells l s Q h' ∧ (∀ y, Q y → Q0 y ∨ h0.length ≤ y) ∧ ∀ b, ov.blk = some b → ¬ Q b
 out : OwnL evtC h' NoneOf ov evs
 ob : ∀ b, ov.blk = some b → h0.length ≤ b
 own : ∀ y, K.own y → y < h0.length
 eg : h'[eb]? = some (.arr [.ptr K.b 0] .tight)
 eo : ¬ K.own eb ∧ eb < h0.length
theorem TkI.start {eb : Nat} (c : CoreA K cells l s Q h) (eg : h[eb]? = some (.arr [.ptr K.b 0] .tight)) (eo : ¬ K.own eb) : TkI K eb l Q h s .nils [] h :=
 ⟨Keep.refl _ _, ⟨Q, cells, c, fun y => .inl, by simp [CV.blk]⟩, OwnL.nil, by simp [CV.blk], c.own_lt, eg, eo, lt_of_get eg⟩
theorem TkI.next {eb : Nat} {Q0 : Nat → Prop} {h0 h1 h2 : Heap} {ov : CV} {evs : List (List CV)} {s' : CoreS} (t : TkI K eb l Q0 h0 s ov evs h1) (c : CoreA K cells l s Q h1) (q1 : ∀ y, Q y → Q0 y ∨ h0.length ≤ y) (q2 : ∀ b, ov.blk = some b → ¬ Q b) (n : CoreN K l s' Q h1 h2) :
  TkI K eb l Q0 h0 s' ov evs h2 := by
 obtain ⟨k, Q', cs, c', q⟩ := n
 have ho : ∀ b, ov.blk = some b → ¬ K.own b := fun b hb o => by have := t.ob b hb; have := t.own b o; omega
 refine ⟨t.keep.trans k, ⟨Q', cs, c', fun y hy => ?_, fun b hb hq => ?_⟩, t.out.keep k ho fun b hb => hb.elim, t.ob, t.own, k.at t.eg t.eo.1, t.eo⟩
 ·rcases q y hy with q | q
  ·exact q1 y q
  ·have := t.keep.len; exact .inr (by omega)
 ·rcases q b hq with q | q
  ·exact q2 b hb q
  ·have := t.out.blk b hb; omega
theorem TkI.on {eb : Nat} {Q0 : Nat → Prop} {h0 h1 h2 : Heap} {ov : CV} {evs : List (List CV)} (t : TkI K eb l Q0 h0 s ov evs h1) (k : Keep NoneOf h1 h2) : TkI K eb l Q0 h0 s ov evs h2 := by
 obtain ⟨Q, cs, c, q1, q2⟩ := t.core
 exact ⟨t.keep.trans (k.mono fun _ _ => False.elim), ⟨Q, cs, c.on k, q1, q2⟩, t.out.on k, t.ob, t.own, k.at t.eg id, t.eo⟩
theorem TkI.app {eb : Nat} {Q0 P : Nat → Prop} {h0 h1 h2 : Heap} {ov : CV} {evs m : List (List CV)} {ys : List CV} {k : Nat} {X : CV × Heap → Prop} (t : TkI K eb l Q0 h0 s ov evs h1) (r : Rows evtC h2 P ys m) (hk : k = m.length) (he : evs.length ≤ big) (hm : m.length ≤ big)
  (kk : ∀ ov' h3, TkI K eb l Q0 h0 s ov' (evs ++ m) h3 → Keep (fun b => ov.blk = some b) h1 h3 → X (ov', h3)) : OV (appendTo h1 7 ov k ys) X := by
 refine OV_pushes (e := evtC) t.out (evtRows r) hk (fun b hb => hb.elim) he hm (by decide) fun v' h3 o3 k3 hb3 => ?_
 obtain ⟨Q, cs, c, q1, q2⟩ := t.core
 have hl := t.keep.len
 have ho : ∀ b, ov.blk = some b → ¬ K.own b := fun b hb o => by have := t.ob b hb; have := t.own b o; omega
 refine kk v' h3 ⟨t.keep.then k3 fun y hy e => by have := t.ob y e; omega, ⟨Q, cs, c.keep k3 fun y e => ⟨ho y e, q2 y e⟩, q1, fun b hb hq => ?_⟩, o3, fun b hb => ?_, t.own, k3.at t.eg fun e => by have := t.ob _ e; have := t.eo.2; omega, t.eo⟩ k3
 ·rcases hb3 b hb with e | e
  ·exact q2 b e hq
  ·have := (c.hQ b hq).1; omega
 ·rcases hb3 b hb with e | e
  ·exact t.ob b e
  ·omega
theorem TkI.done {eb : Nat} {h0 h1 : Heap} {ov : CV} {evs : List (List CV)} (t : TkI K eb l Q h0 s ov evs h1) : CoreN K l s Q h0 h1 ∧ Sl evtC h1 (From h0) ov evs := by
 obtain ⟨Q', cs, c, q1, q2⟩ := t.core
 exact ⟨⟨t.keep, Q', cs, c, q1⟩, t.out.sl.mono fun b hb => hb.elim False.elim fun e => t.ob b e⟩
def PlainJ (x : JobV) : Prop := x.held = [] ∧ x.waits = false ∧ x.flat.length ≤ 1000
def Plain (s : CoreS) : Prop := ∀ x ∈ s.jobs, PlainJ x
theorem Plain.set {jobs : List JobV} {f : Int → Option Int} {gn now seq : Int} {f' : Int → Option Int} {gn' now' seq' : Int} (q : Plain ⟨jobs, f, gn, now, seq⟩) {i : Nat} {x : JobV} (hx : PlainJ x) : Plain ⟨jobs.set i x, f', gn', now', seq'⟩ := fun y hy => by
 rcases List.mem_or_eq_of_mem_set hy with h | h
 ·exact q y h
 ·rw [h]; exact hx
theorem PlainJ.dead : PlainJ deadJ := ⟨rfl, rfl, by decide⟩
theorem PlainJ.begin {x : JobV} (q : PlainJ x) : PlainJ (beginF x).1 := by
 unfold beginF
 split
 ·exact q
 ·exact q
theorem PlainJ.tick {x : JobV} (q : PlainJ x) : PlainJ (tickF x).1 := by
 unfold tickF
 split
 ·split
  ·exact q
  ·exact q
 ·exact q
theorem opS_plain {i : Nat} {bh : Bool} {s' : CoreS} {ev : List (List CV)} (q : Plain s) (ho : opS s i bh = some (s', ev)) : Plain s' ∧ s'.now = s.now := by
 unfold opS at ho
 cases hx : s.jobs[i]? with
 | none => rw [hx] at ho; simp at ho
 | some x =>
   rw [hx] at ho
   have qx := q x (List.mem_of_getElem? hx)
   simp only at ho
   split at ho
   ·split at ho
    ·simp at ho
     rw [← ho.1]
     exact ⟨Plain.set q PlainJ.dead, rfl⟩
    ·split at ho
     ·simp at ho
      rw [← ho.1]
      exact ⟨Plain.set q qx.begin, rfl⟩
     ·simp at ho
   ·simp at ho
def behindF : Nat → CoreS → Option (CoreS × List (List CV))
 | 0, _ => none
 | n + 1, s => match topF s.jobs with
   | none => some (s, [])
   | some i => match s.jobs[i]? with
     | none => none
     | some x => if x.left ≠ 0 then some (s, []) else
       match opS s i true with
       | none => none
       | some (s1, e1) => match behindF n s1 with
         | none => none
         | some (s2, e2) => some (s2, e1 ++ e2)
theorem topI_some {i : Nat} : max (topI (some i)) 0 = (i : Int) ∧ 0 ≤ topI (some i) := by simp [topI]
theorem topF_lt {jobs : List JobV} {i : Nat} (h : topF jobs = some i) : i < jobs.length := (topTo_some h).1
def BeI (eb : Nat) (l : List TaskV) (K : CoreB) (Q0 : Nat → Prop) (h0 : Heap) (now : Int) (s' : CoreS) (E : List (List CV)) (m : Nat) (e : Env) (h' : Heap) : Prop :=
 ∃ s ov evs rest, behindF m s = some (s', rest) ∧ E = evs ++ rest ∧ Plain s ∧ s.now = now ∧ TkI K eb l Q0 h0 s ov evs h' ∧ e = [(0, .ptr eb 0), (3, ov)]
theorem behind450 (lp : LP p) {eb n : Nat} {s' : CoreS} {E : List (List CV)} (c : CoreA K cells l s Q h) (eg : h[eb]? = some (.arr [.ptr K.b 0] .tight)) (eo : ¬ K.own eb) (hp : Plain s) (hn : l.length ≤ 12) (hw : IntKind.i64.wrap (s.now + 1) = s.now + 1)
  (hF : behindF n s = some (s', E)) (hE : E.length ≤ big) :
  WF p 450 [.ptr eb 0] h fun r h' => CoreN K l s' Q h h' ∧ Sl evtC h' (From h) r E := by
 refine WF_of (by rw [lp.pg]; exact S.pg450) (lp.no ⟨rfl, rfl⟩) ?_
 show W p S.b450 _ _ (retQ [.t 2] _)
 unfold S.b450
 simp
 refine W_loop (BeI eb l K Q h s.now s' E) ?_ n ⟨s, .nils, [], E, hF, rfl, hp, rfl, TkI.start c eg eo, rfl⟩
 rintro m e h1 ⟨s1, ov, evs, rest, hF1, rfl, hp1, hnow, t1, rfl⟩
 obtain ⟨Q1, cs, c1, q1, q2⟩ := t1.core
 have lE := ld t1.eg
 simp [lE]
 refine (top309 lp c1 hn fun x hx => ⟨(hp1 x hx).1, (hp1 x hx).2.1⟩).mono ?_
 rintro r h2 ⟨rfl, k2⟩
 have t2 := t1.on k2
 have c2 := c1.on k2
 have lE2 := ld t2.eg
 cases m with
 | zero => simp [behindF] at hF1
 | succ m =>
 simp only [behindF] at hF1
 cases ht : topF s1.jobs with
 | none =>
   rw [ht] at hF1
   simp at hF1
   obtain ⟨rfl, rfl⟩ := hF1
   simp [topI]
   exact t2.done
 | some i =>
   have hij := topF_lt ht
   have hil : i < l.length := by rw [c1.jl] at hij; exact hij
   obtain ⟨x, hx⟩ : ∃ x, s1.jobs[i]? = some x := ⟨_, List.getElem?_eq_getElem hij⟩
   have px := hp1 x (List.mem_of_getElem? hx)
   simp only [ht, hx] at hF1
   simp [topI_some, lE2]
   refine (job312 lp c2 hil hx px.2.2 (by rw [px.1]; simp)).mono ?_
   rintro r h3 ⟨d, rfl, dl, d0, d3, k3⟩
   have t3 := t2.on k3
   have c3 := c2.on k3
   have lE3 := ld t3.eg
   have hp3 : partOf d 3 none = some (.int .i64 x.left) := d3
   by_cases hlf : x.left = 0
   case neg =>
    rw [if_pos hlf] at hF1
    simp at hF1
    obtain ⟨rfl, rfl⟩ := hF1
    simp [hp3, hlf]
    exact t3.done
   rw [if_neg (by simp [hlf])] at hF1
   simp [hp3, hlf, lE3]
   cases ho : opS s1 i true with
   | none => rw [ho] at hF1; simp at hF1
   | some q =>
   obtain ⟨s2, e1⟩ := q
   rw [ho] at hF1
   simp only at hF1
   cases hb2 : behindF m s2 with
   | none => rw [hb2] at hF1; simp at hF1
   | some q2 =>
   obtain ⟨s3, e2⟩ := q2
   rw [hb2] at hF1
   simp at hF1
   obtain ⟨rfl, rfl⟩ := hF1
   refine (op307 lp c3 hil ho (by rw [hnow]; exact hw)).mono ?_
   rintro r h4 ⟨v, rfl, n4, ev4⟩
   have t4 := t3.next c3 q1 q2 n4
   obtain ⟨hp2, hnow2⟩ := opS_plain hp1 ho
   simp at hE
   obtain ⟨cc, sp1, sp2⟩ := ev4.spread (by decide)
   have sp1 : spread h4 7 v = some (e1.length, cc) := sp1
   simp [sp1]
   refine t4.app (m := e1) sp2 rfl (by omega) (by omega) fun ov' h5 t5 _ => ?_
   simp
   exact ⟨m, by omega, s2, ov', evs ++ e1, e2, hb2, by simp, hp2, by rw [hnow2, hnow], t5, rfl⟩
def askI (l : List TaskV) (s : CoreS) (i : Int) : CoreS × List CV :=
 if askErr l s i = 0 then (askS l s i.toNat, evt s.now 1 i 0) else (s, evt s.now 2 i (askErr l s i))
def askL (l : List TaskV) : List Int → CoreS → CoreS × List (List CV)
 | [], s => (s, [])
 | i :: r, s => ((askL l r (askI l s i).1).1, (askI l s i).2 :: (askL l r (askI l s i).1).2)
def TasksOk (l : List TaskV) : Prop := ∀ t ∈ l, t.prog.length ≤ 1000 ∧ ∀ o ∈ t.prog, o.kind ≠ 8
theorem askErr_in {i : Int} (he : askErr l s i = 0) : 0 ≤ i ∧ i < l.length := by
 unfold askErr askE at he
 split at he
 ·simp at he
 ·rename_i hh
  simp at hh
  omega
theorem ask306 (lp : LP p) (c : CoreA K cells l s Q h) (i : Int) (ht : TasksOk l) (hs : IntKind.i64.wrap (s.seq + 1) = s.seq + 1) :
  WF p 306 [.ptr K.b 0, .int .i64 i] h fun r h' => r = .agg (askI l s i).2 ∧ CoreN K l (askI l s i).1 Q h h' := by
 by_cases he : askErr l s i = 0
 ·obtain ⟨i0, i1⟩ := askErr_in he
  obtain ⟨n, rfl⟩ : ∃ n : Nat, i = n := ⟨i.toNat, by omega⟩
  have hn : n < l.length := by omega
  have := ht _ (List.getElem_mem hn)
  simp only [askI, he, if_true, Int.toNat_natCast]
  exact ask_yes lp c hn he hs (by simp [big]; omega) this.2
 ·simp only [askI, he, if_false]
  exact ask_no lp c i he
theorem askI_len {i : Int} : (askI l s i).2.length = 7 := by unfold askI; split <;> rfl
theorem askI_flat {i : Int} : (askI l s i).2.all CV.scalar = true := by unfold askI; split <;> rfl
theorem askI_now {i : Int} : (askI l s i).1.now = s.now := by
 unfold askI
 split
 ·unfold askS; split <;> rfl
 ·rfl
theorem askI_seq {i : Int} : s.seq ≤ (askI l s i).1.seq ∧ (askI l s i).1.seq ≤ s.seq + 1 := by
 unfold askI
 split
 ·unfold askS; split
  ·simp; omega
  ·simp; omega
 ·simp; omega
theorem askI_plain {i : Int} (q : Plain s) (ht : TasksOk l) : Plain (askI l s i).1 := by
 unfold askI
 split
 ·unfold askS
  split
  ·rename_i t ht'
   exact Plain.set q ⟨rfl, rfl, (ht t (List.mem_of_getElem? ht')).1⟩
  ·exact q
 ·exact q
def loopF : Nat → CoreS → Option (CoreS × List (List CV))
 | 0, _ => none
 | n + 1, s => match topF s.jobs with
   | none => some (s, [evt s.now 8 0 0])
   | some i => match s.jobs[i]? with
     | none => none
     | some x => if x.left ≠ 0 then
       if (tickF x).2 = true then none else
       match behindF n { s with jobs := s.jobs.set i (tickF x).1 } with
       | none => none
       | some (s2, e2) => some (s2, evt s.now 3 i 0 :: e2)
       else match opS s i false with
        | none => none
        | some (s1, e1) => match loopF n s1 with
          | none => none
          | some (s2, e2) => some (s2, e1 ++ e2)
theorem opS_now {i : Nat} {bh : Bool} {s' : CoreS} {ev : List (List CV)} (ho : opS s i bh = some (s', ev)) : s'.now = s.now := by
 unfold opS at ho
 cases hx : s.jobs[i]? with
 | none => rw [hx] at ho; simp at ho
 | some x =>
   rw [hx] at ho
   simp only at ho
   split at ho
   ·split at ho
    ·simp at ho; rw [← ho.1]
    ·split at ho
     ·simp at ho; rw [← ho.1]
     ·simp at ho
   ·simp at ho
theorem behindF_now : ∀ {n : Nat} {s s' : CoreS} {e : List (List CV)}, behindF n s = some (s', e) → s'.now = s.now
 | 0, s, s', e, h => by simp [behindF] at h
 | n + 1, s, s', e, h => by
   simp only [behindF] at h
   split at h
   ·simp at h; rw [← h.1]
   ·split at h
    ·simp at h
    ·split at h
     ·simp at h; rw [← h.1]
     ·split at h
      ·simp at h
      ·rename_i s1 e1 ho
       split at h
       ·simp at h
       ·rename_i s2 e2 hb
        simp at h
        rw [← h.1, behindF_now hb, opS_now ho]
theorem evFill {ev : List CV} (h : ev.length = 7) : fillC [.int .i64 0, .int .i64 0, .int .i64 0, .int .i64 0, .int .i64 0, .int .i64 0, .int .i64 0] [(0, 7, .agg ev)] = some ev := by
 match ev, h with
 | [a, b, c, d, e, f, g], _ => rfl
def AkI (eb : Nat) (l : List TaskV) (K : CoreB) (Q0 : Nat → Prop) (h0 : Heap) (av : CV) (asks : List Int) (s0 s' : CoreS) (E : List (List CV)) (m : Nat) (e : Env) (h' : Heap) : Prop :=
 ∃ (i : Nat) (s : CoreS) (ov : CV) (evs : List (List CV)), i ≤ asks.length ∧ m = asks.length - i ∧ s' = (askL l (asks.drop i) s).1 ∧ E = evs ++ (askL l (asks.drop i) s).2 ∧ Plain s ∧ s.now = s0.now ∧ s.seq ≤ s0.seq + i ∧ s0.seq ≤ s.seq ∧ evs.length = i ∧
  TkI K eb l Q0 h0 s ov evs h' ∧ e = [(0, .ptr eb 0), (6, ov), (22, av), (23, .int .i64 asks.length), (24, .int .i64 i)]
def LoI (eb : Nat) (l : List TaskV) (K : CoreB) (Q0 : Nat → Prop) (h0 : Heap) (now : Int) (s' : CoreS) (E : List (List CV)) (m : Nat) (e : Env) (h' : Heap) : Prop :=
 ∃ s ov evs rest, loopF m s = some (s', rest) ∧ E = evs ++ rest ∧ Plain s ∧ s.now = now ∧ TkI K eb l Q0 h0 s ov evs h' ∧ e = [(0, .ptr eb 0), (6, ov)]
theorem tick442 (lp : LP p) {eb n : Nat} {s' : CoreS} {E2 : List (List CV)} {av : CV} {asks : List Int} {A : Nat → Prop} (c : CoreA K cells l s Q h) (eg : h[eb]? = some (.arr [.ptr K.b 0] .tight)) (eo : ¬ K.own eb) (hp : Plain s) (ht : TasksOk l) (hn : l.length ≤ 12)
  (ha : Sl (.int .i64) h A av asks) (hA : ∀ y, A y → ¬ K.own y) (hal : asks.length ≤ 64) (hnow : 0 ≤ s.now ∧ s.now < 1099511627776) (hseq : 0 ≤ s.seq ∧ s.seq < 1099511627776)
  (hF : loopF n (askL l asks s).1 = some (s', E2)) (hE : E2.length ≤ 1000) :
  WF p 442 [.ptr eb 0, av] h fun r h' => ∃ v, r = .tup [v, .int .i64 0] ∧ CoreN K l { s' with now := s.now + 1 } Q h h' ∧ Sl evtC h' (From h) v ((askL l asks s).2 ++ E2) := by
 refine WF_of (by rw [lp.pg]; exact S.pg442) (lp.no ⟨rfl, rfl⟩) ?_
 show W p S.b442 _ _ (retQ [.t 4, .t 5] _)
 unfold S.b442
 have lE := ld eg
 have hw : IntKind.i64.wrap (s.now + 1) = s.now + 1 := w64 (by omega) (by omega)
 simp [lE]
 refine (now444 lp c).mono ?_
 rintro r h1 ⟨rfl, rfl⟩
 have nA := ha.len (by decide)
 have hnow' : ¬ (1099511627776 ≤ s.now) := by omega
 have hal' : ¬ (64 < (asks.length : Int)) := by omega
 simp [hnow', nA, hal']
 refine W_loop (AkI eb l K Q h1 av asks s (askL l asks s).1 (askL l asks s).2) ?_ asks.length ⟨0, s, .nils, [], by omega, by omega, rfl, rfl, hp, rfl, by omega, by omega, rfl, TkI.start c eg eo, rfl⟩
 rintro m e h2 ⟨i, s1, ov, evs, hi, rfl, hs', hE', hp1, hnow1, hsq1, hsq2, hevl, t1, rfl⟩
 obtain ⟨Q1, cs, c1, q1, q2⟩ := t1.core
 have lE1 := ld t1.eg
 by_cases hie : i = asks.length
 ·subst hie
  simp only [List.drop_length, askL, List.append_nil] at hs' hE'
  subst hs'
  rw [hE']
  simp [lE1]
  refine (expire449 lp c1).mono ?_
  rintro r h3 ⟨rfl, rfl⟩
  have sp0 : spread h3 7 .nils = some (0, []) := rfl
  simp [sp0]
  refine t1.app (h2 := h3) (P := NoneOf) (m := []) Rows.nil rfl (by simp [big]; omega) (by simp) fun ov1 h4 t4 _ => ?_
  simp
  refine W_loop (LoI eb l K Q h1 s.now s' (evs ++ E2)) ?_ n ⟨(askL l asks s).1, ov1, evs, E2, hF, rfl, hp1, hnow1, by simpa using t4, rfl⟩
  rintro m e h5 ⟨s2, ov2, evs2, rest, hF2, hE2, hp2, hnow2, t5, rfl⟩
  have hbE : evs2.length + rest.length ≤ 1064 := by
   have := congrArg List.length hE2
   simp at this
   omega
  have hbg : 1064 ≤ big := by simp [big]
  obtain ⟨Q5, cs5, c5, r1, r2⟩ := t5.core
  have lE5 := ld t5.eg
  have fin : ∀ ov6 h6, TkI K eb l Q h1 s' ov6 (evs ++ E2) h6 → s'.now = s.now → WF p 316 [.ptr K.b 0] h6 fun r h7 => CoreN K l { s' with now := s.now + 1 } Q h1 h7 ∧ Sl evtC h7 (From h1) ov6 (evs ++ E2) := by
   intro ov6 h6 t6 hn6
   obtain ⟨Q6, cs6, c6, u1, u2⟩ := t6.core
   refine (next316 lp c6 (by rw [hn6]; exact hw)).mono ?_
   intro r h7 n7
   rw [hn6] at n7
   exact (t6.next c6 u1 u2 n7).done
  simp [lE5]
  refine (top309 lp c5 hn fun x hx => ⟨(hp2 x hx).1, (hp2 x hx).2.1⟩).mono ?_
  rintro r h6 ⟨rfl, k6⟩
  have t6 := t5.on k6
  have c6 := c5.on k6
  have lE6 := ld t6.eg
  cases m with
  | zero => simp [loopF] at hF2
  | succ m =>
  simp only [loopF] at hF2
  cases htp : topF s2.jobs with
  | none =>
    simp only [htp] at hF2
    simp at hF2
    obtain ⟨rfl, rfl⟩ := hF2
    simp [topI, lE6]
    refine (now444 lp c6).mono ?_
    rintro r h7 ⟨rfl, rfl⟩
    have t8 := t6.on (Keep.app NoneOf h7 [.arr (evt s2.now 8 0 0) .tight])
    obtain ⟨cc, sp1, sp2⟩ := (evtC_one (h := h7) (x := evt s2.now 8 0 0) rfl rfl).spread (by decide)
    have sp1 : spread (h7 ++ [.arr (evt s2.now 8 0 0) .tight]) 7 (.sl h7.length 0 1 1) = some (1, cc) := sp1
    simp [evt_fill2, evFill (ev := evt s2.now 8 0 0) rfl, sp1]
    refine t8.app (m := [evt s2.now 8 0 0]) sp2 rfl (by omega) (by simp; omega) fun ov' h9 t9 _ => ?_
    have lE9 := ld t9.eg
    simp [lE9]
    rw [← hE2] at t9
    refine (fin _ _ t9 hnow2).mono ?_
    rintro r h10 q
    simpa using q
  | some i =>
    have hij := topF_lt htp
    have hil : i < l.length := by rw [c5.jl] at hij; exact hij
    obtain ⟨x, hx⟩ : ∃ x, s2.jobs[i]? = some x := ⟨_, List.getElem?_eq_getElem hij⟩
    have px := hp2 x (List.mem_of_getElem? hx)
    simp only [htp, hx] at hF2
    simp [topI_some, lE6]
    refine (job312 lp c6 hil hx px.2.2 (by rw [px.1]; simp)).mono ?_
    rintro r h7 ⟨d, rfl, dl, d0, d3, k7⟩
    have hp3 : partOf d 3 none = some (.int .i64 x.left) := d3
    have t7 := t6.on k7
    have c7 := c6.on k7
    have lE7 := ld t7.eg
    by_cases hlf : x.left = 0
    ·rw [if_neg (by simp [hlf])] at hF2
     simp [hp3, hlf, lE7]
     cases ho : opS s2 i false with
     | none => rw [ho] at hF2; simp at hF2
     | some q =>
     obtain ⟨s3, e1⟩ := q
     rw [ho] at hF2
     simp only at hF2
     cases hb2 : loopF m s3 with
     | none => rw [hb2] at hF2; simp at hF2
     | some q2 =>
     obtain ⟨s4, e2⟩ := q2
     rw [hb2] at hF2
     simp at hF2
     obtain ⟨rfl, rfl⟩ := hF2
     refine (op307 lp c7 hil ho (by rw [hnow2]; exact hw)).mono ?_
     rintro r h8 ⟨v, rfl, n8, ev8⟩
     have t8 := t7.next c7 r1 r2 n8
     obtain ⟨hp8, hnow8⟩ := opS_plain hp2 ho
     obtain ⟨cc, sp1, sp2⟩ := ev8.spread (by decide)
     have sp1 : spread h8 7 v = some (e1.length, cc) := sp1
     simp at hbE
     simp [sp1]
     refine t8.app (m := e1) sp2 rfl (by omega) (by omega) fun ov' h9 t9 _ => ?_
     simp
     exact ⟨m, by omega, s3, ov', evs2 ++ e1, e2, hb2, by rw [hE2]; simp, hp8, by rw [hnow8, hnow2], t9, rfl⟩
    ·rw [if_pos hlf] at hF2
     simp [hp3, hlf, lE7]
     by_cases hov : (tickF x).2 = true
     ·rw [if_pos hov] at hF2; simp at hF2
     rw [if_neg hov] at hF2
     have hov : (tickF x).2 = false := by simpa using hov
     cases hb2 : behindF m { s2 with jobs := s2.jobs.set i (tickF x).1 } with
     | none => rw [hb2] at hF2; simp at hF2
     | some q2 =>
     obtain ⟨s3, e2⟩ := q2
     rw [hb2] at hF2
     simp at hF2
     obtain ⟨rfl, rfl⟩ := hF2
     have hlive : x.live = true := by
      obtain ⟨_, y, hy, hyl⟩ := topTo_some htp
      rw [hx] at hy
      rw [Option.some.inj hy]; exact hyl
     refine (tick310 lp c7 hil hx hlive px.2.1 hlf hov).mono ?_
     rintro r h8 ⟨n8, ev8⟩
     have t8 := t7.next c7 r1 r2 n8
     obtain ⟨cc, sp1, sp2⟩ := ev8.spread (by decide)
     have sp1 : spread h8 7 r = some (1, cc) := sp1
     simp at hbE
     simp [sp1]
     refine t8.app (m := [evt s2.now 3 i 0]) sp2 rfl (by omega) (by simp; omega) fun ov' h9 t9 _ => ?_
     obtain ⟨Q9, cs9, c9, u1, u2⟩ := t9.core
     simp
     refine (behind450 lp c9 t9.eg t9.eo.1 (Plain.set hp2 px.tick) hn (by show IntKind.i64.wrap (s2.now + 1) = _; rw [hnow2]; exact hw) hb2 (by omega)).mono ?_
     rintro r h10 ⟨n10, ev10⟩
     have t10 := t9.next c9 u1 u2 n10
     obtain ⟨cc, sp1, sp2⟩ := ev10.spread (by decide)
     have sp1 : spread h10 7 r = some (e2.length, cc) := sp1
     simp [sp1]
     refine t10.app (m := e2) sp2 rfl (by simp; omega) (by omega) fun ov' h11 t11 _ => ?_
     have lE11 := ld t11.eg
     simp [lE11]
     have t11 : TkI K eb l Q h1 s3 ov' (evs ++ E2) h11 := by
      rw [hE2]
      simpa using t11
     refine (fin _ _ t11 (by rw [behindF_now hb2]; exact hnow2)).mono ?_
     rintro r h12 q
     simpa using q
 ·have hlt : i < asks.length := by omega
  have hlt' : (i : Int) < asks.length := by omega
  obtain ⟨b0, o0, row, x1, x2, x3, x4⟩ := (ha.keep t1.keep hA).row (k := .i64) (by decide) hlt
  have x1 : idxAddrV 1 av (.int .i64 (i : Int)) = some (.ptr b0 o0) := x1
  have x4 : row = [.int .i64 asks[i]] := x4
  have y := x3 0 (by decide)
  rw [x4, Nat.add_zero] at y
  simp at y
  have hw2 : IntKind.i64.wrap ((i : Int) + 1) = ((i + 1 : Nat) : Int) := by rw [w64 (by omega) (by omega)]; omega
  simp [hlt, hlt', x1, y, lE1]
  refine (ask306 lp c1 asks[i] ht (w64 (by omega) (by omega))).mono ?_
  rintro r h3 ⟨rfl, n3⟩
  have t3 := t1.next c1 q1 q2 n3
  have el := askI_len (l := l) (s := s1) (i := asks[i])
  have ef := askI_flat (l := l) (s := s1) (i := asks[i])
  have hnw := askI_now (l := l) (s := s1) (i := asks[i])
  have hsq := askI_seq (l := l) (s := s1) (i := asks[i])
  have hpl := askI_plain (i := asks[i]) hp1 ht
  have hdr : asks.drop i = asks[i] :: asks.drop (i + 1) := List.drop_eq_getElem_cons hlt
  rw [hdr] at hs' hE'
  simp only [askL] at hs' hE'
  generalize askI l s1 asks[i] = q at *
  obtain ⟨s2, ev⟩ := q
  simp only at *
  have t4 := t3.on (Keep.app NoneOf h3 [.arr ev .tight])
  obtain ⟨cc, sp1, sp2⟩ := (evtC_one (h := h3) el ef).spread (by decide)
  have sp1 : spread (h3 ++ [.arr ev .tight]) 7 (.sl h3.length 0 1 1) = some (1, cc) := sp1
  simp [evFill el, sp1]
  refine t4.app (m := [ev]) sp2 rfl (by simp [big]; omega) (by simp [big]) fun ov' h5 t5 _ => ?_
  simp [hw2]
  exact ⟨asks.length - (i + 1), by omega, i + 1, s2, ov', evs ++ [ev], by omega, rfl, hs', by rw [hE']; simp, hpl, by rw [hnw, hnow1], by omega, by omega, by simp; omega, t5, rfl⟩
variable {p : PP}
def NewE (x : SetV) (h : Heap) (r : CV) (h' : Heap) : Prop :=
 Keep NoneOf h h' ∧ ∃ eb K cells Q, r = .tup [.ptr eb 0, .int .i64 0] ∧ CoreA K cells x.tasks ⟨List.replicate x.tasks.length deadJ, fun _ => none, 0, 0, 0⟩ Q h' ∧ h'[eb]? = some (.arr [.ptr K.b 0] .tight) ∧ ¬ K.own eb ∧ ¬ Q eb ∧ h.length ≤ eb ∧ ∀ y, K.own y → h.length ≤ y
theorem new441 (lp : LP p) {h : Heap} {P : Nat → Prop} {x : SetV} {tv : CV} (st : Sl taskC h P tv x.tasks) (hl : x.locks = 0) (hc : x.chans = []) (hP : ∀ b, P b → b < h.length) (hs : x.Sane) (hok : (setP x).2 = 0) (hr : Rises x.tasks) :
  WF p 441 [.agg [.int .i64 0, .nils, tv]] h (NewE x h) := by
 refine WF_of (by rw [lp.pg]; exact S.pg441) (lp.no ⟨rfl, rfl⟩) ?_
 show W p S.b441 _ _ (retQ [.t 2, .t 3] _)
 unfold S.b441
 have hca : ∀ l, (CV.agg l).cells = l := fun _ => rfl
 have kap := Keep.app NoneOf h [.arr [.int .i64 0, .nils, tv] .tight]
 have w0 := ldw (get_new (h := h) (o := .arr [.int .i64 0, .nils, tv] .tight)) (n := 3) rfl
 have st1 := st.on kap
 have hl1 : (h ++ [Obj.arr [.int .i64 0, .nils, tv] .tight]).length = h.length + 1 := by simp
 simp [hca, w0]
 generalize h ++ [Obj.arr [.int .i64 0, .nils, tv] .tight] = H1 at *
 refine (new305 lp st1 hl hc (fun b hb => by have := hP b hb; omega) hs hok hr).mono ?_
 rintro r h2 ⟨k2, b, jb, gb, mb, tb, tv', bv, cev, pv, cells, Q, rfl, ci, e1, e2, e3, e4, e5⟩
 have f1 : fillC [.nilp] [(0, 1, .ptr b 0)] = some [.ptr b 0] := rfl
 simp [f1, hca]
 have k3 := Keep.app NoneOf h2 [.arr [.ptr b 0] .tight]
 let K : CoreB := ⟨b, jb, gb, mb, tb, tv', bv, cev, pv⟩
 have c2 : CoreA K cells x.tasks ⟨List.replicate x.tasks.length deadJ, fun _ => none, 0, 0, 0⟩ Q h2 := ci
 have c3 := c2.on k3
 have hown : ∀ y, K.own y → h.length ≤ y := by
  rintro y (q | q | q | q | q)
  all_goals
   simp only [K] at q
   omega
 exact ⟨(kap.trans k2).trans k3, h2.length, K, cells, Q, rfl, c3, by simp [K], fun o => by have := c2.own_lt _ o; omega, fun q => by have := (c2.hQ _ q).1; omega, by have := k2.len; omega, hown⟩
def sumC (x : Int) : Int := 1 + x.tmod 20
theorem wrap_u8 {x : Int} (h0 : 0 ≤ x) (h1 : x ≤ 255) : IntKind.u8.wrap x = x := by
 simp only [IntKind.wrap, IntKind.bits, IntKind.signed, Bool.false_and, Bool.false_eq_true, if_false]
 omega
def runT (i : Nat) (x : Int) : TaskV := ⟨[97 + UInt8.ofNat i], 1000, 500 + i, 500, [⟨1, sumC x, 0, 0, []⟩]⟩
def runTs (l : List Int) : List TaskV := l.mapIdx runT
@[simp] theorem runTs_length {l : List Int} : (runTs l).length = l.length := by simp [runTs]
structure RuH (h : Heap) (l : List Int) (tv : CV) (i : Nat) (h' : Heap) : Prop where
 k : Keep NoneOf h h'
 g0 : h'[h.length]? = some (.arr [.int .i64 0, .nils, .nils] .tight)
 g1 : h'[h.length + 1]? = some (.arr [.int .i64 0, .nils, tv] .tight)
 ot : OwnN taskC (h.length + 2) h' tv ((runTs l).take i)
 bt : ∀ b, tv.blk = some b → h.length + 2 ≤ b
structure RunJ (x : JobV) (c left used : Int) : Prop where
 live : x.live = true
 flat : x.flat = [⟨1, c, 0, 0, []⟩]
 pc : x.pc = 0
 left : x.left = left
 used : x.used = used
 most : x.most = 500
 held : x.held = []
 waits : x.waits = false
structure SimP (cs : List Int) (jobs : List JobV) (k : Nat) (d : Int) : Prop where
 len : jobs.length = cs.length
 le : k ≤ cs.length
 dead : ∀ j x, jobs[j]? = some x → j < k → x.live = false
 run : ∀ j x c, jobs[j]? = some x → cs[j]? = some c → k ≤ j → RunJ x c (if j = k then d else 0) (if j = k ∧ d ≠ 0 then c - d else 0)
theorem SimP.set {cs : List Int} {jobs : List JobV} {k : Nat} {d d' c : Int} {x : JobV} (q : SimP cs jobs k d) (hc : cs[k]? = some c) (r : RunJ x c d' (if d' ≠ 0 then c - d' else 0)) : SimP cs (jobs.set k x) k d' := by
 refine ⟨by simpa using q.len, q.le, fun j y hy hj => ?_, fun j y c' hy hc' hj => ?_⟩
 ·rw [List.getElem?_set_ne (by omega)] at hy
  exact q.dead j y hy hj
 ·by_cases hjk : j = k
  ·subst hjk
   have hlt := (List.getElem?_eq_some_iff.1 hy).1
   rw [List.getElem?_set_self (by simpa using hlt)] at hy
   rw [hc] at hc'
   cases hy
   cases hc'
   simpa using r
  ·rw [List.getElem?_set_ne (by omega)] at hy
   have := q.run j y c' hy hc' hj
   simpa [hjk] using this
theorem SimP.step {cs : List Int} {jobs : List JobV} {k : Nat} {d : Int} (q : SimP cs jobs k d) (hk : k < cs.length) : SimP cs (jobs.set k deadJ) (k + 1) 0 := by
 refine ⟨by simpa using q.len, hk, fun j y hy hj => ?_, fun j y c' hy hc' hj => ?_⟩
 ·by_cases hjk : j = k
  ·subst hjk
   have hlt := (List.getElem?_eq_some_iff.1 hy).1
   rw [List.getElem?_set_self (by simpa using hlt)] at hy
   cases hy; rfl
  ·rw [List.getElem?_set_ne (by omega)] at hy
   exact q.dead j y hy (by omega)
 ·rw [List.getElem?_set_ne (by omega)] at hy
  have := q.run j y c' hy hc' (by omega)
  have hjk : ¬ j = k := by omega
  simpa [hjk] using this
end Go.Cl
