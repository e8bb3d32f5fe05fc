/-
  Calls into the library whose contracts are known: what they are in the clean evaluator.
-/
import Derived.Test.YtiegjnklhafloaaDoorCl18
import Derived.Below
import Derived.Sort.Grow
import Derived.Deep.Draws
import Derived.Lib.ConvBytes
namespace Go.Cl
open Go
set_option linter.unusedSimpArgs false
set_option linter.unusedVariables false

/-- nothing that was there has changed -/
structure Calm (w w' : World) : Prop where
  os : w'.os = w.os
  out : w'.output = w.output
  size : w.heap.size ≤ w'.heap.size
  old : ∀ r, r < w.heap.size → w'.heap[r]? = w.heap[r]?

theorem Calm.refl (w : World) : Calm w w := ⟨rfl, rfl, Nat.le_refl _, fun _ _ => rfl⟩
theorem Calm.below {w w' : World} (h : RowKit.Below w.heap.size w w') : Calm w w' := ⟨h.os, h.output, h.size, h.block⟩
theorem Calm.grow (w : World) (k : Nat) (os : Array Go.Obj) : Calm w (Sort.grow (w.drewN k) os) := by
  refine ⟨rfl, rfl, ?_, fun r hr => ?_⟩
  · show w.heap.size ≤ (w.heap ++ os).size
    simp
  · show (w.heap ++ os)[r]? = _
    exact Array.getElem?_append_left hr
theorem Calm.alloc (w : World) (o : Go.Obj) : Calm w (w.alloc o) := by
  have g := WGrow.alloc w o
  exact ⟨g.os, g.out, g.size, g.old⟩

theorem bytes_calm (w : World) (e : TypeId) (s : ByteArray) : Calm w (Lib.bytesWorld w e s) := by
  exact ⟨rfl, rfl, by rw [Lib.bytesWorld_size]; omega, fun r hr => Lib.bytesWorld_at_old w e s r hr⟩

section
variable {P : Program} {G : Gam}

theorem Sim.fresh {m : Mp} {h : Heap} {w : World} (s : Sim G m h w) : m h.length = none := by
  cases hk : m h.length with
  | none => rfl
  | some L' => exact absurd (s.dom _ _ hk) (by omega)

theorem Sim.calm {m : Mp} {h : Heap} {w w' : World} (s : Sim G m h w) (c : Calm w w') : Sim G m h w' :=
  s.world fun b L e l => c.old _ (s.blk_lt e l)

theorem Evo.calm {m : Mp} {h : Heap} {w w' : World} (c : Calm w w') : Evo m h w m h w' :=
  ⟨Mp.le_refl _, Nat.le_refl _, fun _ _ e => ⟨e, rfl⟩, c.os, c.out, c.size, fun k hk _ => c.old k hk, fun b L e o => .inr ⟨b, L, e, o, rfl⟩⟩

/-- a call that makes nothing that is seen -/
theorem calm_sim {fid : FuncId} {vs : List CV} {r : CV} {h : Heap}
    (hc : ∀ m w rvs, Sim G m h w → trL G m vs = some rvs → ∃ rv, tr G m r = some rv ∧ Calls P fid rvs.toArray w fun e w' => e = .returned rv ∧ Calm w w') : CallSim P G fid vs h r h := by
  intro m w rvs s ht
  obtain ⟨rv, h1, h2⟩ := hc m w rvs s ht
  refine h2.mono fun e w' ⟨he, c⟩ => ⟨m, rv, he, h1, s.calm c, Evo.calm c⟩

/-- a call that makes one object -/
theorem made_sim {fid : FuncId} {vs : List CV} {r : CV} {h : Heap} {ob : Obj}
    (hc : ∀ m w rvs, Sim G m h w → trL G m vs = some rvs → Calls P fid rvs.toArray w fun e w' => ∃ rv L, e = .returned rv ∧ Calm w w' ∧ w.heap.size ≤ L.blk ∧ tr G (m.upd h.length L) r = some rv ∧ ObjR G (m.upd h.length L) L w' ob) :
    CallSim P G fid vs h r (h ++ [ob]) := by
  intro m w rvs s ht
  refine (hc m w rvs s ht).mono fun e w' ⟨rv, L, he, c, hL, h1, h2⟩ => ?_
  have hn := s.fresh
  refine ⟨m.upd h.length L, rv, he, h1, ?_, ?_⟩
  · exact (s.more [ob]).new hn (by simp) (fun b L' e ⟨o, ho, hl⟩ => c.old _ (s.blk_lt e ⟨o, by rwa [List.getElem?_append_left (s.dom b L' e)] at ho, hl⟩))
      (fun _ b L' e ⟨o, ho, hl⟩ => by have := s.blk_lt e ⟨o, by rwa [List.getElem?_append_left (s.dom b L' e)] at ho, hl⟩; omega) h2
  · have hg : WGrow w w' := ⟨c.os, c.out, c.size, c.old⟩
    exact hg.evo s (g' := [ob]) ⟨fun x => by simp at x, fun ob' hob => ⟨L, rfl, fun _ => hL⟩⟩ (by simp)

/-- what a pinned variable holds -/
theorem pin_cells {m : Mp} {h : Heap} {w : World} (s : Sim G m h w) {k g : Nat} {q : Pin} (hk : G.K[k]? = some (.pin g q)) : ∃ C e fr, w.heap[g]? = some (.cells C e fr) ∧ q.is C := by
  obtain ⟨a1, _, L, a3⟩ := s.base k _ hk
  obtain ⟨hg, C, e, fr, h1, h2⟩ := s.obj k L _ a3 a1
  exact ⟨C, e, fr, hg ▸ h1, h2⟩

theorem var_of {w : World} {g : Nat} {C : Array Value} {e : TypeId} {fr : Nat × Nat} {nm : String} (hb : w.heap[g]? = some (.cells C e fr)) (hg : P.globalNamed nm = some g) : w.var? P nm = some C := by
  simp [World.var?, hg, hb]

theorem trL_str {m : Mp} {s : List UInt8} {r : List CV} {rvs : List Value} (h : trL G m (.str s :: r) = some rvs) : ∃ xs, rvs = .string ⟨s.toArray⟩ :: xs ∧ trL G m r = some xs := by
  obtain ⟨x, xs, h1, h2, rfl⟩ := trL_cons h
  simp [tr] at h1
  exact ⟨xs, by rw [h1], h2⟩
theorem trL_int {m : Mp} {k : IntKind} {n : Int} {r : List CV} {rvs : List Value} (h : trL G m (.int k n :: r) = some rvs) : ∃ xs, rvs = .int k n :: xs ∧ trL G m r = some xs := by
  obtain ⟨x, xs, h1, h2, rfl⟩ := trL_cons h
  simp [tr] at h1
  exact ⟨xs, by rw [h1], h2⟩
theorem trL_nil {m : Mp} {rvs : List Value} (h : trL G m [] = some rvs) : rvs = [] := by simpa [trL] using h.symm

end
end Go.Cl
