/-
  Arguments of a law as lists of numbers, texts, structs; slices of numbers.
-/
import Derived.Test.YtiegjnklhafloaaDoorCl17
import Derived.Test.YtiegjnklhafloaaDoorCl18
import Derived.Test.YtiegjnklhafloaaDoorClMap
namespace Go.Cl
open Go
set_option linter.unusedSimpArgs false
set_option linter.unusedVariables false

/-- numbers as values -/
def ints (k : IntKind) (l : List Int) : List CV := l.map (.int k ·)
@[simp] theorem ints_length {k : IntKind} {l : List Int} : (ints k l).length = l.length := by simp [ints]
theorem ints_get {k : IntKind} {l : List Int} {i : Nat} : (ints k l)[i]? = (l[i]?).map (.int k ·) := by simp [ints]

theorem w64 {x : Int} (h1 : -9223372036854775808 ≤ x) (h2 : x ≤ 9223372036854775807) : IntKind.i64.wrap x = x := wrap_in x h1 h2

theorem readI_len {h : Heap} {k : IntKind} {v : CV} {l : List Int} (g : Read h 1 v (ints k l)) : lenV h .sl v = some (.int .i64 (l.length : Int)) := by
  have := g.len (by decide); simpa using this

theorem readI_idx {h : Heap} {k k' : IntKind} {v : CV} {l : List Int} (g : Read h 1 v (ints k l)) {i : Nat} (hi : i < l.length) :
    ∃ b o, idxAddrV 1 v (.int k' (i : Int)) = some (.ptr b o) ∧ v.blk = some b ∧ loadAt h b o none = some (.int k l[i]) := by
  obtain ⟨b, o, c1, c2, c3⟩ := g.cell (i := i) (k := k') (by simp; omega) (by decide)
  have c4 := c3 0 (by decide)
  simp only [Nat.mul_one, Nat.add_zero, ints_get, List.getElem?_eq_getElem hi, Option.map_some] at c4
  exact ⟨b, o, c1, c2, c4⟩

/-- a slice of numbers among the arguments -/
theorem arg_ints {h : Heap} {k : IntKind} {v : CV} (a : Arg h (.sl (.int k)) v) : ∃ l : List Int, Read h 1 v (ints k l) ∧ ∀ x ∈ l, k.min ≤ x ∧ x ≤ k.max := by
  rcases (a : Sh h (.sl (.int k)) [v]) with a | ⟨b, n, cs, h1, h2, h3, h4, h5⟩
  · simp at a; subst a; exact ⟨[], .inl ⟨rfl, rfl⟩, by simp⟩
  · simp at h1; subst h1
    simp only [Ty.n, Nat.mul_one] at h3 h5
    have key : ∀ i, i < cs.length → ∃ x, cs[i]? = some (.int k x) ∧ k.min ≤ x ∧ x ≤ k.max := by
      intro i hi
      obtain ⟨x, hx, hw⟩ := h5 i (by omega)
      have : (cs.drop i).take 1 = [cs[i]] := by rw [List.drop_eq_getElem_cons hi, List.take_succ_cons, List.take_zero]
      rw [this] at hx
      simp at hx
      simp only [Lit.wf, Bool.and_eq_true, decide_eq_true_eq] at hw
      exact ⟨x, by rw [List.getElem?_eq_getElem hi, hx], hw⟩
    let g : CV → Int := fun c => match c with | .int _ x => x | _ => 0
    refine ⟨cs.map g, .inr ⟨b, 0, n, n, cs, .ro, rfl, by simp [h3], h2, by omega, ?_⟩, ?_⟩
    · have e : ints k (cs.map g) = cs := by
        apply List.ext_getElem?
        intro i
        rw [ints_get, List.getElem?_map]
        by_cases hi : i < cs.length
        · obtain ⟨x, hx, _⟩ := key i hi; rw [hx]; rfl
        · rw [List.getElem?_eq_none (by omega)]; rfl
      rw [e]; simp [← h3]
    · intro x hx
      obtain ⟨c, hc, rfl⟩ := List.mem_map.1 hx
      obtain ⟨i, hi, rfl⟩ := List.getElem_of_mem hc
      obtain ⟨x, hx', hr⟩ := key i hi
      rw [List.getElem?_eq_getElem hi] at hx'
      simp at hx'
      rw [hx']; exact hr

theorem WF_known {p : PP} {f : Nat} {l : List Nat} {pr : Prims} (hp : p.pr = addKnown l pr) (hf : l.contains f = true) {h : Heap} {K : CV → Heap → Prop} (k : K (.bool true) h) : WF p f [] h K := by
  refine ⟨1, .bool true, h, ?_, k⟩
  show evCall p.Pg p.pr 1 f [] h = _
  simp only [evCall, hp, addKnown, hf]

end Go.Cl
