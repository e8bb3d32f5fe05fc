/-
  Each clean text is that of the model's function: printed by a program, tested by Lean's kernel.
-/
import Derived.Test.YtomndeglgcpekaaM2
import Derived.Test.YtomndeglgcpekaaS
import Derived.Test.YtomndeglgcpekaaChecked
import Derived.KernelRfl
namespace Go.Proofs.Ytomndeglgcpekaa
open Go Go.Cl

def gtbl : List (Nat × Nat) := [
  (9, 3),
  (4, 4),
  (5, 5),
  (11, 6),
  (10, 7),
  (12, 8),
  (6, 9),
  (13, 10),
  (8, 11),
  (14, 12),
  (52, 13),
  (53, 14),
  (32, 16),
  (2, 2),
  (54, 15)]

def ttbl : List (Nat × Nat) := [(0, 55), (4, 5), (6, 9)]

def gam : Gam where
  F := S.lk gtbl
  T := fun t => (S.lk ttbl t).getD 0
  K := []

theorem link9 : funM Try.prog gam S.f9 Try.f3 = true := by kernel_rfl
theorem link4 : funM Try.prog gam S.f4 Try.f4 = true := by kernel_rfl
theorem link5 : funM Try.prog gam S.f5 Try.f5 = true := by kernel_rfl
theorem link11 : funM Try.prog gam S.f11 Try.f6 = true := by kernel_rfl
theorem link10 : funM Try.prog gam S.f10 Try.f7 = true := by kernel_rfl
theorem link12 : funM Try.prog gam S.f12 Try.f8 = true := by kernel_rfl
theorem link6 : funM Try.prog gam S.f6 Try.f9 = true := by kernel_rfl
theorem link13 : funM Try.prog gam S.f13 Try.f10 = true := by kernel_rfl
theorem link8 : funM Try.prog gam S.f8 Try.f11 = true := by kernel_rfl
theorem link14 : funM Try.prog gam S.f14 Try.f12 = true := by kernel_rfl
theorem link52 : funM Try.prog gam S.f52 Try.f13 = true := by kernel_rfl
theorem link53 : funM Try.prog gam S.f53 Try.f14 = true := by kernel_rfl
theorem link32 : funM Try.prog gam S.f32 Try.f16 = true := by kernel_rfl

theorem lk_mem {α : Type} : ∀ (l : List (Nat × α)) (i : Nat) (v : α), S.lk l i = some v → (i, v) ∈ l
  | [], i, v, h => by cases h
  | (k, u) :: r, i, v, h => by
    unfold S.lk at h
    cases hb : Nat.beq i k with
    | true =>
      rw [hb] at h
      have := Nat.eq_of_beq_eq_true hb
      subst this
      cases h
      exact List.mem_cons_self
    | false => rw [hb] at h; exact List.mem_cons_of_mem _ (lk_mem r i v h)

theorem lkYes {g fid : Nat} {sf : SFunc} {fn : Func} (h1 : S.pg g = some sf) (h2 : Try.prog.funcs[fid]? = some fn) (h3 : funM Try.prog gam sf fn = true) : ∀ sf', S.pg g = some sf' → ∃ fn, Try.prog.funcs[fid]? = some fn ∧ funM Try.prog gam sf' fn = true :=
  fun sf' h => by rw [h1] at h; cases h; exact ⟨fn, h2, h3⟩
theorem lkNo {g fid : Nat} (h1 : S.pg g = none) : ∀ sf', S.pg g = some sf' → ∃ fn, Try.prog.funcs[fid]? = some fn ∧ funM Try.prog gam sf' fn = true :=
  fun sf' h => by rw [h1] at h; cases h
theorem allN {p : Nat × Nat → Prop} : ∀ x ∈ ([] : List (Nat × Nat)), p x := fun _ h => by cases h
theorem allC {p : Nat × Nat → Prop} {a : Nat × Nat} {l : List (Nat × Nat)} (h : p a) (k : ∀ x ∈ l, p x) : ∀ x ∈ a :: l, p x := fun x hx => by
  rcases List.mem_cons.1 hx with rfl | hx
  · exact h
  · exact k x hx

theorem linkedAll : ∀ x ∈ gtbl, ∀ sf', S.pg x.1 = some sf' → ∃ fn, Try.prog.funcs[x.2]? = some fn ∧ funM Try.prog gam sf' fn = true :=
  allC (lkYes S.pg9 Try.func3 link9) <|
  allC (lkYes S.pg4 Try.func4 link4) <|
  allC (lkYes S.pg5 Try.func5 link5) <|
  allC (lkYes S.pg11 Try.func6 link11) <|
  allC (lkYes S.pg10 Try.func7 link10) <|
  allC (lkYes S.pg12 Try.func8 link12) <|
  allC (lkYes S.pg6 Try.func9 link6) <|
  allC (lkYes S.pg13 Try.func10 link13) <|
  allC (lkYes S.pg8 Try.func11 link8) <|
  allC (lkYes S.pg14 Try.func12 link14) <|
  allC (lkYes S.pg52 Try.func13 link52) <|
  allC (lkYes S.pg53 Try.func14 link53) <|
  allC (lkYes S.pg32 Try.func16 link32) <|
  allC (lkNo rfl) <|
  allC (lkNo rfl) <|
  allN

theorem linked : Linked Try.prog gam S.pg := fun f fid hf sf hs => linkedAll (f, fid) (lk_mem gtbl f fid hf) sf hs

theorem goodAll : ∀ x ∈ gtbl, ∃ fn, Try.prog.funcs[x.2]? = some fn ∧ fn.body.isNone = false ∧ (fn.name == "runtime.NumGoroutine") = false :=
  allC ⟨_, Try.func3, by kernel_rfl, by kernel_rfl⟩ <|
  allC ⟨_, Try.func4, by kernel_rfl, by kernel_rfl⟩ <|
  allC ⟨_, Try.func5, by kernel_rfl, by kernel_rfl⟩ <|
  allC ⟨_, Try.func6, by kernel_rfl, by kernel_rfl⟩ <|
  allC ⟨_, Try.func7, by kernel_rfl, by kernel_rfl⟩ <|
  allC ⟨_, Try.func8, by kernel_rfl, by kernel_rfl⟩ <|
  allC ⟨_, Try.func9, by kernel_rfl, by kernel_rfl⟩ <|
  allC ⟨_, Try.func10, by kernel_rfl, by kernel_rfl⟩ <|
  allC ⟨_, Try.func11, by kernel_rfl, by kernel_rfl⟩ <|
  allC ⟨_, Try.func12, by kernel_rfl, by kernel_rfl⟩ <|
  allC ⟨_, Try.func13, by kernel_rfl, by kernel_rfl⟩ <|
  allC ⟨_, Try.func14, by kernel_rfl, by kernel_rfl⟩ <|
  allC ⟨_, Try.func16, by kernel_rfl, by kernel_rfl⟩ <|
  allC ⟨_, Try.func2, by kernel_rfl, by kernel_rfl⟩ <|
  allC ⟨_, Try.func15, by kernel_rfl, by kernel_rfl⟩ <|
  allN

theorem good : Good Try.prog gam := fun g fid h => goodAll (g, fid) (lk_mem gtbl g fid h)

theorem mixed : Try.prog.follows .mixedOrders = true := by kernel_rfl

end Go.Proofs.Ytomndeglgcpekaa
