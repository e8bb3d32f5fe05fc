/-
  Arguments, one by one.
-/
import Derived.Test.YtiegjnklhafloaaDoorClRep
namespace Go.Cl
open Go
set_option linter.unusedSimpArgs false
set_option linter.unusedVariables false

def inI (x : Int) : Prop := -9223372036854775808 ≤ x ∧ x ≤ 9223372036854775807

theorem sh_int {h : Heap} {c : List CV} (s : Sh h (.int .i64) c) : ∃ n, c = [.int .i64 n] ∧ inI n := by
  obtain ⟨n, hc, hw⟩ := s
  simp only [Lit.wf, Bool.and_eq_true, decide_eq_true_eq] at hw
  exact ⟨n, hc, hw⟩
theorem sh_bool {h : Heap} {c : List CV} (s : Sh h .bool c) : ∃ b, c = [.bool b] := s
theorem sh_sl {α : Type} {ty : Ty} {e : Cod α} {W : α → Prop} (r : Tells ty e W) {h : Heap} {c : List CV} (s : Sh h (.sl ty) c) : ∃ v l, c = [v] ∧ Sl e h (fun b => b < h.length) v l ∧ l.length ≤ maxLen ∧ ∀ x ∈ l, W x := by
  obtain ⟨l, ⟨v, hv, hs⟩, hw⟩ := r.sl.2 h c s
  exact ⟨v, l, hv, hs, hw⟩

/-- a struct among the arguments -/
theorem arg_st {α : Type} {ty : Ty} {e : Cod α} {W : α → Prop} (r : Tells ty e W) (ht : ty.isSt = true) {h : Heap} {v : CV} (a : Arg h ty v) : ∃ c x, v = .agg c ∧ e.rep h (fun b => b < h.length) c x ∧ W x := by
  unfold Arg at a
  rw [ht] at a
  obtain ⟨c, rfl, _, s⟩ := a
  obtain ⟨x, hx, hw⟩ := r.2 h c s
  exact ⟨c, x, rfl, hx, hw⟩
theorem arg_sl {α : Type} {ty : Ty} {e : Cod α} {W : α → Prop} (r : Tells ty e W) {h : Heap} {v : CV} (a : Arg h (.sl ty) v) : ∃ l, Sl e h (fun b => b < h.length) v l ∧ l.length ≤ maxLen ∧ ∀ x ∈ l, W x := by
  obtain ⟨v', l, hv, hs⟩ := sh_sl r (show Sh h (.sl ty) [v] from a)
  simp at hv; subst hv
  exact ⟨l, hs⟩
theorem arg_int {k : IntKind} {h : Heap} {v : CV} (a : Arg h (.int k) v) : ∃ n, v = .int k n ∧ k.min ≤ n ∧ n ≤ k.max := by
  obtain ⟨n, hn, hw⟩ := (show Sh h (.int k) [v] from a)
  simp at hn
  simp only [Lit.wf, Bool.and_eq_true, decide_eq_true_eq] at hw
  exact ⟨n, hn, hw⟩
theorem arg_str {h : Heap} {v : CV} (a : Arg h .str v) : ∃ s, v = .str s ∧ s.length ≤ maxLen := by
  obtain ⟨s, hs, hw⟩ := (show Sh h .str [v] from a)
  simp at hs
  exact ⟨s, hs, hw⟩
theorem arg_bool {h : Heap} {v : CV} (a : Arg h .bool v) : ∃ b, v = .bool b := by
  obtain ⟨n, hn⟩ := (show Sh h .bool [v] from a)
  simp at hn
  exact ⟨n, hn⟩

theorem argL1 {h : Heap} {a : Ty} {vs : List CV} (k : ArgL h [a] vs) : ∃ v, vs = [v] ∧ Arg h a v := by
  match vs, k with
  | [v], k => exact ⟨v, rfl, k.1⟩
theorem argL2 {h : Heap} {a b : Ty} {vs : List CV} (k : ArgL h [a, b] vs) : ∃ v w, vs = [v, w] ∧ Arg h a v ∧ Arg h b w := by
  match vs, k with
  | [v, w], k => exact ⟨v, w, rfl, k.1, k.2.1⟩
theorem argL3 {h : Heap} {a b c : Ty} {vs : List CV} (k : ArgL h [a, b, c] vs) : ∃ v w x, vs = [v, w, x] ∧ Arg h a v ∧ Arg h b w ∧ Arg h c x := by
  match vs, k with
  | [v, w, x], k => exact ⟨v, w, x, rfl, k.1, k.2.1, k.2.2.1⟩
theorem argL4 {h : Heap} {a b c d : Ty} {vs : List CV} (k : ArgL h [a, b, c, d] vs) : ∃ v w x y, vs = [v, w, x, y] ∧ Arg h a v ∧ Arg h b w ∧ Arg h c x ∧ Arg h d y := by
  match vs, k with
  | [v, w, x, y], k => exact ⟨v, w, x, y, rfl, k.1, k.2.1, k.2.2.1, k.2.2.2.1⟩

end Go.Cl
