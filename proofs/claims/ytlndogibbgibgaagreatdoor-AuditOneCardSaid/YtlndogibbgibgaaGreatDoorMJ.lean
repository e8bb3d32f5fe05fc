/-
  Texts laid together: AEnL AEnM.
-/
import Derived.Test.YtlndogibbgibgaaGreatDoorMI
namespace Go.Cl
open Go
set_option linter.unusedSimpArgs false
set_option linter.unusedVariables false
set_option maxHeartbeats 1000000
variable {p : PP} {K : CoreB} {cells : List CV} {l : List TaskV} {s : CoreS} {Q : Nat → Prop} {h h' : Heap}
theorem evtRows {h h' : Heap} {P P' : Nat → Prop} {c : List CV} {m : List (List CV)} (r : Rows evtC h P c m) : Rows evtC h' P' c m := r
structure TkI (K : CoreB) (eb : Nat) (l : List TaskV) (Q0 : Nat → Prop) (h0 : Heap) (s : CoreS) (ov : CV) (evs : List (List CV)) (h' : Heap) : Prop where
 keep : Keep K.own h0 h'
 core : ∃ Q cells, CoreA K cells l s Q h' ∧ (∀ y, Q y → Q0 y ∨ h0.length ≤ y) ∧ ∀ b, ov.blk = some b → ¬ Q b
 out : OwnL evtC h' NoneOf ov evs
 ob : ∀ b, ov.blk = some b → h0.length ≤ b
 own : ∀ y, K.own y → y < h0.length
 eg : h'[eb]? = some (.arr [.ptr K.b 0] .tight)
 eo : ¬ K.own eb ∧ eb < h0.length
theorem TkI.start {eb : Nat} (c : CoreA K cells l s Q h) (eg : h[eb]? = some (.arr [.ptr K.b 0] .tight)) (eo : ¬ K.own eb) : TkI K eb l Q h s .nils [] h :=
 ⟨Keep.refl _ _, ⟨Q, cells, c, fun y => .inl, by simp [CV.blk]⟩, OwnL.nil, by simp [CV.blk], c.own_lt, eg, eo, lt_of_get eg⟩
theorem TkI.next {eb : Nat} {Q0 : Nat → Prop} {h0 h1 h2 : Heap} {ov : CV} {evs : List (List CV)} {s' : CoreS} (t : TkI K eb l Q0 h0 s ov evs h1) (c : CoreA K cells l s Q h1) (q1 : ∀ y, Q y → Q0 y ∨ h0.length ≤ y) (q2 : ∀ b, ov.blk = some b → ¬ Q b) (n : CoreN K l s' Q h1 h2) :
  TkI K eb l Q0 h0 s' ov evs h2 := by
 obtain ⟨k, Q', cs, c', q⟩ := n
 have ho : ∀ b, ov.blk = some b → ¬ K.own b := fun b hb o => by have := t.ob b hb; have := t.own b o; omega
 refine ⟨t.keep.trans k, ⟨Q', cs, c', fun y hy => ?_, fun b hb hq => ?_⟩, t.out.keep k ho fun b hb => hb.elim, t.ob, t.own, k.at t.eg t.eo.1, t.eo⟩
 ·rcases q y hy with q | q
  ·exact q1 y q
  ·have := t.keep.len; exact .inr (by omega)
 ·rcases q b hq with q | q
  ·exact q2 b hb q
  ·have := t.out.blk b hb; omega
theorem TkI.on {eb : Nat} {Q0 : Nat → Prop} {h0 h1 h2 : Heap} {ov : CV} {evs : List (List CV)} (t : TkI K eb l Q0 h0 s ov evs h1) (k : Keep NoneOf h1 h2) : TkI K eb l Q0 h0 s ov evs h2 := by
 obtain ⟨Q, cs, c, q1, q2⟩ := t.core
 exact ⟨t.keep.trans (k.mono fun _ _ => False.elim), ⟨Q, cs, c.on k, q1, q2⟩, t.out.on k, t.ob, t.own, k.at t.eg id, t.eo⟩
theorem TkI.app {eb : Nat} {Q0 P : Nat → Prop} {h0 h1 h2 : Heap} {ov : CV} {evs m : List (List CV)} {ys : List CV} {k : Nat} {X : CV × Heap → Prop} (t : TkI K eb l Q0 h0 s ov evs h1) (r : Rows evtC h2 P ys m) (hk : k = m.length) (he : evs.length ≤ big) (hm : m.length ≤ big)
  (kk : ∀ ov' h3, TkI K eb l Q0 h0 s ov' (evs ++ m) h3 → Keep (fun b => ov.blk = some b) h1 h3 → X (ov', h3)) : OV (appendTo h1 7 ov k ys) X := by
 refine OV_pushes (e := evtC) t.out (evtRows r) hk (fun b hb => hb.elim) he hm (by decide) fun v' h3 o3 k3 hb3 => ?_
 obtain ⟨Q, cs, c, q1, q2⟩ := t.core
 have hl := t.keep.len
 have ho : ∀ b, ov.blk = some b → ¬ K.own b := fun b hb o => by have := t.ob b hb; have := t.own b o; omega
 refine kk v' h3 ⟨t.keep.then k3 fun y hy e => by have := t.ob y e; omega, ⟨Q, cs, c.keep k3 fun y e => ⟨ho y e, q2 y e⟩, q1, fun b hb hq => ?_⟩, o3, fun b hb => ?_, t.own, k3.at t.eg fun e => by have := t.ob _ e; have := t.eo.2; omega, t.eo⟩ k3
 ·rcases hb3 b hb with e | e
  ·exact q2 b e hq
  ·have := (c.hQ b hq).1; omega
 ·rcases hb3 b hb with e | e
  ·exact t.ob b e
  ·omega
theorem TkI.done {eb : Nat} {h0 h1 : Heap} {ov : CV} {evs : List (List CV)} (t : TkI K eb l Q h0 s ov evs h1) : CoreN K l s Q h0 h1 ∧ Sl evtC h1 (From h0) ov evs := by
 obtain ⟨Q', cs, c, q1, q2⟩ := t.core
 exact ⟨⟨t.keep, Q', cs, c, q1⟩, t.out.sl.mono fun b hb => hb.elim False.elim fun e => t.ob b e⟩
def PlainJ (x : JobV) : Prop := x.held = [] ∧ x.waits = false ∧ x.flat.length ≤ 1000
def Plain (s : CoreS) : Prop := ∀ x ∈ s.jobs, PlainJ x
theorem Plain.set {jobs : List JobV} {f : Int → Option Int} {gn now seq : Int} {f' : Int → Option Int} {gn' now' seq' : Int} (q : Plain ⟨jobs, f, gn, now, seq⟩) {i : Nat} {x : JobV} (hx : PlainJ x) : Plain ⟨jobs.set i x, f', gn', now', seq'⟩ := fun y hy => by
 rcases List.mem_or_eq_of_mem_set hy with h | h
 ·exact q y h
 ·rw [h]; exact hx
theorem PlainJ.dead : PlainJ deadJ := ⟨rfl, rfl, by decide⟩
theorem PlainJ.begin {x : JobV} (q : PlainJ x) : PlainJ (beginF x).1 := by
 unfold beginF
 split
 ·exact q
 ·exact q
theorem PlainJ.tick {x : JobV} (q : PlainJ x) : PlainJ (tickF x).1 := by
 unfold tickF
 split
 ·split
  ·exact q
  ·exact q
 ·exact q
theorem topI_some {i : Nat} : max (topI (some i)) 0 = (i : Int) ∧ 0 ≤ topI (some i) := by simp [topI]
def TasksOk (l : List TaskV) : Prop := ∀ t ∈ l, t.prog.length ≤ 1000 ∧ ∀ o ∈ t.prog, o.kind ≠ 8
theorem evFill {ev : List CV} (h : ev.length = 7) : fillC [.int .i64 0, .int .i64 0, .int .i64 0, .int .i64 0, .int .i64 0, .int .i64 0, .int .i64 0] [(0, 7, .agg ev)] = some ev := by
 match ev, h with
 | [a, b, c, d, e, f, g], _ => rfl
end Go.Cl
