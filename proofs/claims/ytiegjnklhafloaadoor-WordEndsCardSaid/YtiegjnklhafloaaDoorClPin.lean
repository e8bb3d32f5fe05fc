/-
  Package-level variables that a row lists: where they lie when the call begins.
-/
import Derived.Test.YtiegjnklhafloaaDoorCl17
import Derived.LaidLaws
import Derived.LaidSub
import Derived.LaidHandle
import Derived.Lib.LaidTab
namespace Go.Cl
open Go
set_option linter.unusedSimpArgs false
set_option linter.unusedVariables false

theorem Inv.pins {G : Gam} {w : World} (h : ∀ (k : Nat) (o : Obj), G.K[k]? = some o → ∃ g q, o = .pin g q ∧ ∃ C e fr, w.heap[g]? = some (.cells C e fr) ∧ q.is C) : ∃ m, Inv G m G.K w := by
  refine ⟨fun k => match G.K[k]? with | some (.pin g _) => some ⟨g, 0, 0, none⟩ | _ => none, ?_, ?_, ?_, ?_⟩
  · intro b L e
    rcases Nat.lt_or_ge b G.K.length with g | g
    · exact g
    · simp [List.getElem?_eq_none g] at e
  · intro b L o e ho
    obtain ⟨g, q, rfl, C, et, fr, h1, h2⟩ := h b o ho
    simp [ho] at e
    subst e
    exact ⟨rfl, C, et, fr, h1, h2⟩
  · intro o ho
    obtain ⟨k, hk⟩ := List.mem_iff_getElem?.1 ho
    obtain ⟨g, q, rfl, _⟩ := h k o hk
    rfl
  · intro k o hk
    obtain ⟨g, q, rfl, _⟩ := h k o hk
    exact ⟨hk, ⟨g, q, rfl⟩, ⟨g, 0, 0, none⟩, by simp [hk]⟩

theorem heap_of_var {P : Program} {w : World} {n : String} {g : Nat} {C : Array Value} (hg : P.globalNamed n = some g) (h : w.var? P n = some C) : ∃ e fr, w.heap[g]? = some (.cells C e fr) := by
  unfold World.var? at h
  rw [hg] at h
  simp only [Option.bind_some] at h
  cases hh : w.heap[g]? with
  | none => rw [hh] at h; cases h
  | some o =>
    rw [hh] at h
    cases o <;> simp at h
    subst h
    exact ⟨_, _, rfl⟩

/-- a table that is listed -/
theorem tab_of {P : Program} {W : World} {l : List (String × DataW Unit)} {n : String} {k : IntKind} {zs : List Int} {g : Nat} {t e : TypeId} {c : Nat} (h : laidMet P l W)
    (hf : (l.filter fun x => x.1 == n) = [(n, Lib.tabData k zs)])
    (hg : P.globalNamed n = some g) (hty : (P.globals[g]?).map (·.type) = some t) (ht : P.underlying t = some (.array c e)) (he : P.underlying e = some (.int k)) (hce : P.cellsOf e = 1) (hct : P.cellsOf t = c) : W.var? P n = some (zs.map (Value.int k)).toArray := by
  have := h.filter fun x => x.1 == n
  rw [hf] at this
  exact Lib.tabIs_of_head hg hty ht he hce hct this

/-- an error that is listed -/
theorem ifc_of {P : Program} {W : World} {l : List (String × DataW Unit)} {n nm : String} {d : DataW Unit} {g : Nat} {t : TypeId} {ms : Array (String × TypeId)} (h : laidMet P l W)
    (hf : (l.filter fun x => x.1 == n) = [(n, .iface nm d)])
    (hg : P.globalNamed n = some g) (hty : (P.globals[g]?).map (·.type) = some t) (ht : P.underlying t = some (.interface ms)) : ∃ u v, W.var? P n = some #[.iface u v] := by
  have := h.filter fun x => x.1 == n
  rw [hf] at this
  obtain ⟨ps, ⟨g', t', cs, fuel, p, q, hg', ht', hvar, hd, _, _⟩, _⟩ := this
  obtain rfl := Option.some.inj (hg.symm.trans hg')
  obtain rfl := Option.some.inj (hty.symm.trans ht')
  obtain ⟨_, u, v, hcs, _⟩ := iface_of_trod ht hd
  exact ⟨u, v, by rw [hvar, Array.eq_one_of_toList hcs]⟩

end Go.Cl
