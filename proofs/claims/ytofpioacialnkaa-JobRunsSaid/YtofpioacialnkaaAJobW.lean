/-
  Ops, jobs among the arguments.
-/
import Derived.Test.YtofpioacialnkaaAJob
namespace Go.Cl
open Go
set_option linter.unusedSimpArgs false
set_option linter.unusedVariables false

def caseTy : Ty := .cons .bool (.cons (.int .i64) (.cons (.int .i64) .nil))
def opTy : Ty := .cons (.int .i64) (.cons (.int .i64) (.cons (.int .i64) (.cons (.int .i64) (.cons (.sl caseTy) .nil))))
def jobTy : Ty := .cons .bool (.cons (.sl opTy) (.cons (.int .i64) (.cons (.int .i64) (.cons (.int .i64) (.cons (.int .i64) (.cons (.int .i64) (.cons (.int .i64) (.cons .bool (.cons (.sl (.int .i64)) .nil)))))))))

def inI (x : Int) : Prop := -9223372036854775808 ≤ x ∧ x ≤ 9223372036854775807

theorem sh_int {h : Heap} {c : List CV} (s : Sh h (.int .i64) c) : ∃ n, c = [.int .i64 n] ∧ inI n := by
  obtain ⟨n, hc, hw⟩ := s
  simp only [Lit.wf, Bool.and_eq_true, decide_eq_true_eq] at hw
  exact ⟨n, hc, hw⟩
theorem sh_bool {h : Heap} {c : List CV} (s : Sh h .bool c) : ∃ b, c = [.bool b] := s
theorem sh_sl {α : Type} {ty : Ty} {e : Cod α} {W : α → Prop} (r : Tells ty e W) {h : Heap} {c : List CV} (s : Sh h (.sl ty) c) : ∃ v l, c = [v] ∧ Sl e h (fun b => b < h.length) v l ∧ l.length ≤ maxLen ∧ ∀ x ∈ l, W x := by
  obtain ⟨l, ⟨v, hv, hs⟩, hw⟩ := r.sl.2 h c s
  exact ⟨v, l, hv, hs, hw⟩

theorem tellsCase : Tells caseTy caseC fun x => inI x.chan ∧ inI x.v := by
  refine ⟨rfl, fun h c s => ?_⟩
  obtain ⟨c1, c', rfl, s1, s⟩ := sh_cons s
  obtain ⟨c2, c', rfl, s2, s⟩ := sh_cons s
  obtain ⟨c3, c', rfl, s3, s⟩ := sh_cons s
  have e := sh_nil s
  subst e
  obtain ⟨a, rfl⟩ := sh_bool s1
  obtain ⟨b, rfl, hb⟩ := sh_int s2
  obtain ⟨d, rfl, hd⟩ := sh_int s3
  exact ⟨⟨a, b, d⟩, rfl, hb, hd⟩

def okOp (x : OpV) : Prop := inI x.kind ∧ inI x.n ∧ inI x.v ∧ inI x.wait ∧ ∀ c ∈ x.cases, inI c.chan ∧ inI c.v

theorem tellsOp : Tells opTy opC okOp := by
  refine ⟨rfl, fun h c s => ?_⟩
  obtain ⟨c1, c', rfl, s1, s⟩ := sh_cons s
  obtain ⟨c2, c', rfl, s2, s⟩ := sh_cons s
  obtain ⟨c3, c', rfl, s3, s⟩ := sh_cons s
  obtain ⟨c4, c', rfl, s4, s⟩ := sh_cons s
  obtain ⟨c5, c', rfl, s5, s⟩ := sh_cons s
  have e := sh_nil s
  subst e
  obtain ⟨a, rfl, ha⟩ := sh_int s1
  obtain ⟨b, rfl, hb⟩ := sh_int s2
  obtain ⟨d, rfl, hd⟩ := sh_int s3
  obtain ⟨f, rfl, hf⟩ := sh_int s4
  obtain ⟨v, l, rfl, hv, hl, hw⟩ := sh_sl tellsCase s5
  exact ⟨⟨a, b, d, f, l⟩, ⟨v, rfl, hv⟩, ha, hb, hd, hf, hw⟩

def okJob (x : JobV) : Prop := (∀ o ∈ x.flat, okOp o) ∧ inI x.pc ∧ inI x.left ∧ inI x.used ∧ inI x.most ∧ inI x.since ∧ inI x.seq

theorem tellsJob : Tells jobTy jobC okJob := by
  refine ⟨rfl, fun h c s => ?_⟩
  obtain ⟨c1, c', rfl, s1, s⟩ := sh_cons s
  obtain ⟨c2, c', rfl, s2, s⟩ := sh_cons s
  obtain ⟨c3, c', rfl, s3, s⟩ := sh_cons s
  obtain ⟨c4, c', rfl, s4, s⟩ := sh_cons s
  obtain ⟨c5, c', rfl, s5, s⟩ := sh_cons s
  obtain ⟨c6, c', rfl, s6, s⟩ := sh_cons s
  obtain ⟨c7, c', rfl, s7, s⟩ := sh_cons s
  obtain ⟨c8, c', rfl, s8, s⟩ := sh_cons s
  obtain ⟨c9, c', rfl, s9, s⟩ := sh_cons s
  obtain ⟨c10, c', rfl, s10, s⟩ := sh_cons s
  have e := sh_nil s
  subst e
  obtain ⟨live, rfl⟩ := sh_bool s1
  obtain ⟨fv, flat, rfl, hf, _, hfw⟩ := sh_sl tellsOp s2
  obtain ⟨pc, rfl, h3⟩ := sh_int s3
  obtain ⟨left, rfl, h4⟩ := sh_int s4
  obtain ⟨used, rfl, h5⟩ := sh_int s5
  obtain ⟨most, rfl, h6⟩ := sh_int s6
  obtain ⟨since, rfl, h7⟩ := sh_int s7
  obtain ⟨seq, rfl, h8⟩ := sh_int s8
  obtain ⟨waits, rfl⟩ := sh_bool s9
  obtain ⟨hv, held, rfl, hh, _, _⟩ := sh_sl (Tells.int .i64) s10
  exact ⟨⟨live, flat, pc, left, used, most, since, seq, waits, held⟩, ⟨fv, hv, rfl, hf, hh⟩, hfw, h3, h4, h5, h6, h7, h8⟩

/-- a struct among the arguments -/
theorem arg_st {α : Type} {ty : Ty} {e : Cod α} {W : α → Prop} (r : Tells ty e W) (ht : ty.isSt = true) {h : Heap} {v : CV} (a : Arg h ty v) : ∃ c x, v = .agg c ∧ e.rep h (fun b => b < h.length) c x ∧ W x := by
  unfold Arg at a
  rw [ht] at a
  obtain ⟨c, rfl, _, s⟩ := a
  obtain ⟨x, hx, hw⟩ := r.2 h c s
  exact ⟨c, x, rfl, hx, hw⟩
theorem arg_sl {α : Type} {ty : Ty} {e : Cod α} {W : α → Prop} (r : Tells ty e W) {h : Heap} {v : CV} (a : Arg h (.sl ty) v) : ∃ l, Sl e h (fun b => b < h.length) v l ∧ l.length ≤ maxLen ∧ ∀ x ∈ l, W x := by
  obtain ⟨v', l, hv, hs⟩ := sh_sl r (show Sh h (.sl ty) [v] from a)
  simp at hv; subst hv
  exact ⟨l, hs⟩
theorem arg_int {k : IntKind} {h : Heap} {v : CV} (a : Arg h (.int k) v) : ∃ n, v = .int k n ∧ k.min ≤ n ∧ n ≤ k.max := by
  obtain ⟨n, hn, hw⟩ := (show Sh h (.int k) [v] from a)
  simp at hn
  simp only [Lit.wf, Bool.and_eq_true, decide_eq_true_eq] at hw
  exact ⟨n, hn, hw⟩
theorem arg_bool {h : Heap} {v : CV} (a : Arg h .bool v) : ∃ b, v = .bool b := by
  obtain ⟨n, hn⟩ := (show Sh h .bool [v] from a)
  simp at hn
  exact ⟨n, hn⟩

theorem argL1 {h : Heap} {a : Ty} {vs : List CV} (k : ArgL h [a] vs) : ∃ v, vs = [v] ∧ Arg h a v := by
  match vs, k with
  | [v], k => exact ⟨v, rfl, k.1⟩
theorem argL2 {h : Heap} {a b : Ty} {vs : List CV} (k : ArgL h [a, b] vs) : ∃ v w, vs = [v, w] ∧ Arg h a v ∧ Arg h b w := by
  match vs, k with
  | [v, w], k => exact ⟨v, w, rfl, k.1, k.2.1⟩
theorem argL3 {h : Heap} {a b c : Ty} {vs : List CV} (k : ArgL h [a, b, c] vs) : ∃ v w x, vs = [v, w, x] ∧ Arg h a v ∧ Arg h b w ∧ Arg h c x := by
  match vs, k with
  | [v, w, x], k => exact ⟨v, w, x, rfl, k.1, k.2.1, k.2.2.1⟩
theorem argL4 {h : Heap} {a b c d : Ty} {vs : List CV} (k : ArgL h [a, b, c, d] vs) : ∃ v w x y, vs = [v, w, x, y] ∧ Arg h a v ∧ Arg h b w ∧ Arg h c x ∧ Arg h d y := by
  match vs, k with
  | [v, w, x, y], k => exact ⟨v, w, x, y, rfl, k.1, k.2.1, k.2.2.1, k.2.2.2.1⟩

end Go.Cl
