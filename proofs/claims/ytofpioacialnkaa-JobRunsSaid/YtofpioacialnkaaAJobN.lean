/-
  Layer 20: a new job of ops without loops.
-/
import Derived.Test.YtofpioacialnkaaAJobB
namespace Go.Cl
open Go
set_option linter.unusedSimpArgs false
set_option linter.unusedVariables false
set_option maxHeartbeats 2000000

variable {p : PP}

def FlatInv (v0 : CV) (l : List OpV) (P : Nat → Prop) (h : Heap) (m : Nat) (e : Env) (h' : Heap) : Prop :=
  ∃ (i : Nat) (ov : CV), i ≤ l.length ∧ m = l.length - i ∧ e = [(0, v0), (3, ov), (4, .int .i64 i)] ∧ Keep NoneOf h h' ∧ OwnL opC h' (fun b => P b ∧ b < h.length) ov (l.take i) ∧ ∀ b, ov.blk = some b → h.length ≤ b

/-- ops without loops are done as they stand -/
theorem flatPlain_spec {h : Heap} {v0 : CV} {l : List OpV} {P : Nat → Prop} (hpg : p.Pg = S.pg) (q65 : p.pr 65 = none) (s0 : Sl opC h P v0 l) (hb : l.length ≤ big) (hk : ∀ o ∈ l, o.kind ≠ 8) :
    WF p 65 [v0] h fun r h' => Keep NoneOf h h' ∧ Sl opC h' (Or P h) r l := by
  refine WF_of (by rw [hpg]; exact S.pg65) q65 ?_
  show W p S.b65 _ _ (retQ [.t 2] _)
  unfold S.b65
  simp
  refine W_loop (FlatInv v0 l P h) ?_ l.length ⟨0, .nils, by omega, by omega, rfl, Keep.refl _ _, OwnL.nil, by simp [CV.blk]⟩
  rintro m e h1 ⟨i, ov, hi, rfl, rfl, k1, ow, hov⟩
  have s1 := s0.on k1
  have n1 := s1.len (by decide)
  by_cases hie : i = l.length
  · subst hie
    rw [List.take_length] at ow
    simp [n1]
    exact ⟨k1, ow.sl.mono fun b hb => hb.elim (fun hb => .inl hb.1) fun hb => .inr (hov b hb)⟩
  · have hlt : i < l.length := by omega
    have hlt' : (i : Int) < l.length := by omega
    obtain ⟨bb, o, row, x1, x2, x4⟩ := s0.rowK (k := .i64) (by decide) hlt
    have x3 := (x2 h1 k1).2 0 (by decide)
    have x5 := (x2 h1 k1).1
    have cl := opC.len x4
    have x6 := opC.on (opC.lt x4) k1
    obtain ⟨cv, rfl, _⟩ := x4
    simp only [opC] at x1 x5 cl
    simp at x3
    have hw : IntKind.i64.wrap ((i : Int) + 1) = ((i + 1 : Nat) : Int) := by
      simp [big] at hb
      rw [w64 (by omega) (by omega)]; omega
    have hkk := hk _ (List.getElem_mem hlt)
    have kap : ∀ g, Keep NoneOf h1 (h1 ++ g) := fun g => Keep.app _ _ _
    simp [n1, hlt', x1, x3, x5, hkk, fillC, splice, spread, cellsAt]
    have ow2 := ow.on (kap [.arr [.int .i64 l[i].kind, .int .i64 l[i].n, .int .i64 l[i].v, .int .i64 l[i].wait, cv] .tight])
    refine OV_push (e := opC) (x := l[i]) ow2 (opC.on x6 (kap _)) (fun b hb => by have := k1.len; simp; omega) (by simp; omega) (by decide) ?_
    intro v' h3 o3 k3 hb3
    simp [hw]
    refine ⟨l.length - (i + 1), by omega, i + 1, v', by omega, rfl, rfl, (k1.trans (kap _)).then k3 fun b hb e => by have := hov b e; omega, by simpa [List.take_append_getElem hlt] using o3, fun b hb => ?_⟩
    rcases hb3 b hb with q | q
    · exact hov b q
    · have := k1.len; simp at q; omega

def newF (l : List OpV) (most now seq : Int) : JobV := ⟨true, l, 0, 0, 0, most, now, seq, false, []⟩

theorem jobNew_spec {h : Heap} {v0 : CV} {l : List OpV} {P : Nat → Prop} {most now seq : Int} (hpg : p.Pg = S.pg) (q48 : p.pr 48 = none) (q65 : p.pr 65 = none) (s0 : Sl opC h P v0 l) (hb : l.length ≤ big) (hk : ∀ o ∈ l, o.kind ≠ 8) :
    WF p 48 [v0, .int .i64 most, .int .i64 now, .int .i64 seq] h fun r h' => Keep NoneOf h h' ∧ ∃ d, r = .agg d ∧ jobC.rep h' (Or P h) d (newF l most now seq) := by
  refine WF_of (by rw [hpg]; exact S.pg48) q48 ?_
  show W p S.b48 _ _ (retQ [.cell (some 10) 8] _)
  unfold S.b48
  have kap : ∀ g, Keep NoneOf h (h ++ g) := fun g => Keep.app _ _ _
  simp
  refine (flatPlain_spec hpg q65 (s0.lt.on (kap _)) hb hk).mono ?_
  rintro r h2 ⟨k2, so⟩
  have g := k2.at (b := h.length) (o := .arr [.bool false, .nils, .int .i64 0, .int .i64 0, .int .i64 0, .int .i64 0, .int .i64 0, .int .i64 0, .bool false, .nils] .tight) (by simp) id
  have fr := so.scalar
  have fl : ([.bool true, r, .int .i64 0, .int .i64 0, .int .i64 0, .int .i64 most, .int .i64 now, .int .i64 seq, .bool false, .nils] : List CV).all CV.scalar = true := by
    simp only [List.all_cons, List.all_nil, fr]; rfl
  have ke : Keep (fun b => b = h.length) h2 (h2.set h.length (.arr [.bool true, r, .int .i64 0, .int .i64 0, .int .i64 0, .int .i64 most, .int .i64 now, .int .i64 seq, .bool false, .nils] .tight)) := Keep.set _ _ rfl
  have kk : Keep NoneOf h _ := ((kap _).trans k2).then ke fun b hb e => by omega
  have l2 := ldw (get_set_self (o := .arr [.bool true, r, .int .i64 0, .int .i64 0, .int .i64 0, .int .i64 most, .int .i64 now, .int .i64 seq, .bool false, .nils] .tight) (lt_of_get g)) (n := 10) rfl
  have s2 := sto g (vs := [.bool true, r, .int .i64 0, .int .i64 0, .int .i64 0, .int .i64 most, .int .i64 now, .int .i64 seq, .bool false, .nils]) rfl fl
  simp [fillC, splice, CV.cells_scalar fr, s2, l2]
  refine ⟨kk, r, .nils, rfl, (so.keep ke fun b hb e => ?_).mono fun b hb => ?_, Sl.nil⟩
  · rcases hb with hb | hb
    · omega
    · simp at hb; omega
  · rcases hb with hb | hb
    · exact .inl hb.1
    · right; simp at hb; omega

end Go.Cl
