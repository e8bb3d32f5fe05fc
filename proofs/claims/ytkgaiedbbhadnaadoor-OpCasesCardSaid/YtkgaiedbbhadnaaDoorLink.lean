/-
  Each clean text is that of the model's function: printed by a program, tested by Lean's kernel.
-/
import Derived.Test.YtkgaiedbbhadnaaDoorM2
import Derived.Test.YtkgaiedbbhadnaaDoorS
import Derived.Test.YtkgaiedbbhadnaaDoorChecked
import Derived.KernelRfl
namespace Go.Proofs.YtkgaiedbbhadnaaDoor
open Go Go.Cl

def gtbl : List (Nat × Nat) := [
  (217, 3),
  (220, 4),
  (218, 5),
  (219, 6),
  (221, 7),
  (222, 8),
  (51, 9),
  (223, 10),
  (224, 11),
  (225, 12),
  (99, 13),
  (226, 14),
  (227, 15),
  (92, 17),
  (229, 18),
  (228, 19),
  (230, 20),
  (231, 21),
  (232, 22),
  (233, 23),
  (66, 24),
  (235, 25),
  (234, 26),
  (236, 32),
  (237, 33),
  (94, 34),
  (238, 35),
  (128, 16),
  (126, 27),
  (167, 28),
  (136, 29),
  (137, 30),
  (122, 31),
  (151, 36),
  (152, 37),
  (184, 38),
  (140, 39),
  (123, 40),
  (124, 41),
  (125, 42),
  (180, 43),
  (181, 44),
  (182, 45),
  (183, 46),
  (154, 49),
  (155, 50),
  (156, 51),
  (141, 52),
  (143, 53),
  (142, 54),
  (144, 55),
  (146, 56),
  (145, 57),
  (148, 58),
  (147, 59),
  (149, 60),
  (150, 61),
  (187, 62),
  (188, 63),
  (189, 64),
  (190, 65),
  (191, 66),
  (169, 67),
  (159, 68),
  (171, 70),
  (157, 71),
  (158, 72),
  (160, 73),
  (161, 74),
  (162, 75),
  (163, 76),
  (164, 77),
  (165, 78),
  (166, 79),
  (192, 80),
  (193, 81),
  (172, 82),
  (195, 83),
  (198, 85),
  (199, 86),
  (173, 87),
  (174, 88),
  (175, 89),
  (176, 90),
  (177, 91),
  (179, 92),
  (178, 93),
  (200, 95),
  (201, 96),
  (202, 97),
  (186, 98),
  (216, 129),
  (2, 2)]

def ttbl : List (Nat × Nat) := [(1, 117), (2, 120), (3, 140), (4, 5), (5, 64), (6, 9)]

def gam : Gam where
  F := S.lk gtbl
  T := fun t => (S.lk ttbl t).getD 0
  K := [.pin 0 (.ints .u64 [1, 10, 100, 1000, 10000, 100000, 1000000, 10000000, 100000000, 1000000000, 10000000000, 100000000000, 1000000000000, 10000000000000, 100000000000000, 1000000000000000, 10000000000000000, 100000000000000000, 1000000000000000000, 10000000000000000000]), .pin 1 (.anyInt .i64), .pin 2 (.anyIfc), .pin 3 (.anyIfc)]

theorem link217 : funM Tryd.prog gam S.f217 Tryd.f3 = true := by kernel_rfl
theorem link220 : funM Tryd.prog gam S.f220 Tryd.f4 = true := by kernel_rfl
theorem link218 : funM Tryd.prog gam S.f218 Tryd.f5 = true := by kernel_rfl
theorem link219 : funM Tryd.prog gam S.f219 Tryd.f6 = true := by kernel_rfl
theorem link221 : funM Tryd.prog gam S.f221 Tryd.f7 = true := by kernel_rfl
theorem link222 : funM Tryd.prog gam S.f222 Tryd.f8 = true := by kernel_rfl
theorem link51 : funM Tryd.prog gam S.f51 Tryd.f9 = true := by kernel_rfl
theorem link223 : funM Tryd.prog gam S.f223 Tryd.f10 = true := by kernel_rfl
theorem link224 : funM Tryd.prog gam S.f224 Tryd.f11 = true := by kernel_rfl
theorem link225 : funM Tryd.prog gam S.f225 Tryd.f12 = true := by kernel_rfl
theorem link99 : funM Tryd.prog gam S.f99 Tryd.f13 = true := by kernel_rfl
theorem link226 : funM Tryd.prog gam S.f226 Tryd.f14 = true := by kernel_rfl
theorem link227 : funM Tryd.prog gam S.f227 Tryd.f15 = true := by kernel_rfl
theorem link92 : funM Tryd.prog gam S.f92 Tryd.f17 = true := by kernel_rfl
theorem link229 : funM Tryd.prog gam S.f229 Tryd.f18 = true := by kernel_rfl
theorem link228 : funM Tryd.prog gam S.f228 Tryd.f19 = true := by kernel_rfl
theorem link230 : funM Tryd.prog gam S.f230 Tryd.f20 = true := by kernel_rfl
theorem link231 : funM Tryd.prog gam S.f231 Tryd.f21 = true := by kernel_rfl
theorem link232 : funM Tryd.prog gam S.f232 Tryd.f22 = true := by kernel_rfl
theorem link233 : funM Tryd.prog gam S.f233 Tryd.f23 = true := by kernel_rfl
theorem link66 : funM Tryd.prog gam S.f66 Tryd.f24 = true := by kernel_rfl
theorem link235 : funM Tryd.prog gam S.f235 Tryd.f25 = true := by kernel_rfl
theorem link234 : funM Tryd.prog gam S.f234 Tryd.f26 = true := by kernel_rfl
theorem link236 : funM Tryd.prog gam S.f236 Tryd.f32 = true := by kernel_rfl
theorem link237 : funM Tryd.prog gam S.f237 Tryd.f33 = true := by kernel_rfl
theorem link94 : funM Tryd.prog gam S.f94 Tryd.f34 = true := by kernel_rfl
theorem link238 : funM Tryd.prog gam S.f238 Tryd.f35 = true := by kernel_rfl

theorem lk_mem {α : Type} : ∀ (l : List (Nat × α)) (i : Nat) (v : α), S.lk l i = some v → (i, v) ∈ l
  | [], i, v, h => by cases h
  | (k, u) :: r, i, v, h => by
    unfold S.lk at h
    cases hb : Nat.beq i k with
    | true =>
      rw [hb] at h
      have := Nat.eq_of_beq_eq_true hb
      subst this
      cases h
      exact List.mem_cons_self
    | false => rw [hb] at h; exact List.mem_cons_of_mem _ (lk_mem r i v h)

theorem lkYes {g fid : Nat} {sf : SFunc} {fn : Func} (h1 : S.pg g = some sf) (h2 : Tryd.prog.funcs[fid]? = some fn) (h3 : funM Tryd.prog gam sf fn = true) : ∀ sf', S.pg g = some sf' → ∃ fn, Tryd.prog.funcs[fid]? = some fn ∧ funM Tryd.prog gam sf' fn = true :=
  fun sf' h => by rw [h1] at h; cases h; exact ⟨fn, h2, h3⟩
theorem lkNo {g fid : Nat} (h1 : S.pg g = none) : ∀ sf', S.pg g = some sf' → ∃ fn, Tryd.prog.funcs[fid]? = some fn ∧ funM Tryd.prog gam sf' fn = true :=
  fun sf' h => by rw [h1] at h; cases h
theorem allN {p : Nat × Nat → Prop} : ∀ x ∈ ([] : List (Nat × Nat)), p x := fun _ h => by cases h
theorem allC {p : Nat × Nat → Prop} {a : Nat × Nat} {l : List (Nat × Nat)} (h : p a) (k : ∀ x ∈ l, p x) : ∀ x ∈ a :: l, p x := fun x hx => by
  rcases List.mem_cons.1 hx with rfl | hx
  · exact h
  · exact k x hx

theorem linkedAll : ∀ x ∈ gtbl, ∀ sf', S.pg x.1 = some sf' → ∃ fn, Tryd.prog.funcs[x.2]? = some fn ∧ funM Tryd.prog gam sf' fn = true :=
  allC (lkYes S.pg217 Tryd.func3 link217) <|
  allC (lkYes S.pg220 Tryd.func4 link220) <|
  allC (lkYes S.pg218 Tryd.func5 link218) <|
  allC (lkYes S.pg219 Tryd.func6 link219) <|
  allC (lkYes S.pg221 Tryd.func7 link221) <|
  allC (lkYes S.pg222 Tryd.func8 link222) <|
  allC (lkYes S.pg51 Tryd.func9 link51) <|
  allC (lkYes S.pg223 Tryd.func10 link223) <|
  allC (lkYes S.pg224 Tryd.func11 link224) <|
  allC (lkYes S.pg225 Tryd.func12 link225) <|
  allC (lkYes S.pg99 Tryd.func13 link99) <|
  allC (lkYes S.pg226 Tryd.func14 link226) <|
  allC (lkYes S.pg227 Tryd.func15 link227) <|
  allC (lkYes S.pg92 Tryd.func17 link92) <|
  allC (lkYes S.pg229 Tryd.func18 link229) <|
  allC (lkYes S.pg228 Tryd.func19 link228) <|
  allC (lkYes S.pg230 Tryd.func20 link230) <|
  allC (lkYes S.pg231 Tryd.func21 link231) <|
  allC (lkYes S.pg232 Tryd.func22 link232) <|
  allC (lkYes S.pg233 Tryd.func23 link233) <|
  allC (lkYes S.pg66 Tryd.func24 link66) <|
  allC (lkYes S.pg235 Tryd.func25 link235) <|
  allC (lkYes S.pg234 Tryd.func26 link234) <|
  allC (lkYes S.pg236 Tryd.func32 link236) <|
  allC (lkYes S.pg237 Tryd.func33 link237) <|
  allC (lkYes S.pg94 Tryd.func34 link94) <|
  allC (lkYes S.pg238 Tryd.func35 link238) <|
  allC (lkNo rfl) <|
  allC (lkNo rfl) <|
  allC (lkNo rfl) <|
  allC (lkNo rfl) <|
  allC (lkNo rfl) <|
  allC (lkNo rfl) <|
  allC (lkNo rfl) <|
  allC (lkNo rfl) <|
  allC (lkNo rfl) <|
  allC (lkNo rfl) <|
  allC (lkNo rfl) <|
  allC (lkNo rfl) <|
  allC (lkNo rfl) <|
  allC (lkNo rfl) <|
  allC (lkNo rfl) <|
  allC (lkNo rfl) <|
  allC (lkNo rfl) <|
  allC (lkNo rfl) <|
  allC (lkNo rfl) <|
  allC (lkNo rfl) <|
  allC (lkNo rfl) <|
  allC (lkNo rfl) <|
  allC (lkNo rfl) <|
  allC (lkNo rfl) <|
  allC (lkNo rfl) <|
  allC (lkNo rfl) <|
  allC (lkNo rfl) <|
  allC (lkNo rfl) <|
  allC (lkNo rfl) <|
  allC (lkNo rfl) <|
  allC (lkNo rfl) <|
  allC (lkNo rfl) <|
  allC (lkNo rfl) <|
  allC (lkNo rfl) <|
  allC (lkNo rfl) <|
  allC (lkNo rfl) <|
  allC (lkNo rfl) <|
  allC (lkNo rfl) <|
  allC (lkNo rfl) <|
  allC (lkNo rfl) <|
  allC (lkNo rfl) <|
  allC (lkNo rfl) <|
  allC (lkNo rfl) <|
  allC (lkNo rfl) <|
  allC (lkNo rfl) <|
  allC (lkNo rfl) <|
  allC (lkNo rfl) <|
  allC (lkNo rfl) <|
  allC (lkNo rfl) <|
  allC (lkNo rfl) <|
  allC (lkNo rfl) <|
  allC (lkNo rfl) <|
  allC (lkNo rfl) <|
  allC (lkNo rfl) <|
  allC (lkNo rfl) <|
  allC (lkNo rfl) <|
  allC (lkNo rfl) <|
  allC (lkNo rfl) <|
  allC (lkNo rfl) <|
  allC (lkNo rfl) <|
  allC (lkNo rfl) <|
  allC (lkNo rfl) <|
  allC (lkNo rfl) <|
  allC (lkNo rfl) <|
  allC (lkNo rfl) <|
  allC (lkNo rfl) <|
  allN

theorem linked : Linked Tryd.prog gam S.pg := fun f fid hf sf hs => linkedAll (f, fid) (lk_mem gtbl f fid hf) sf hs

theorem goodAll : ∀ x ∈ gtbl, ∃ fn, Tryd.prog.funcs[x.2]? = some fn ∧ fn.body.isNone = false ∧ (fn.name == "runtime.NumGoroutine") = false :=
  allC ⟨_, Tryd.func3, by kernel_rfl, by kernel_rfl⟩ <|
  allC ⟨_, Tryd.func4, by kernel_rfl, by kernel_rfl⟩ <|
  allC ⟨_, Tryd.func5, by kernel_rfl, by kernel_rfl⟩ <|
  allC ⟨_, Tryd.func6, by kernel_rfl, by kernel_rfl⟩ <|
  allC ⟨_, Tryd.func7, by kernel_rfl, by kernel_rfl⟩ <|
  allC ⟨_, Tryd.func8, by kernel_rfl, by kernel_rfl⟩ <|
  allC ⟨_, Tryd.func9, by kernel_rfl, by kernel_rfl⟩ <|
  allC ⟨_, Tryd.func10, by kernel_rfl, by kernel_rfl⟩ <|
  allC ⟨_, Tryd.func11, by kernel_rfl, by kernel_rfl⟩ <|
  allC ⟨_, Tryd.func12, by kernel_rfl, by kernel_rfl⟩ <|
  allC ⟨_, Tryd.func13, by kernel_rfl, by kernel_rfl⟩ <|
  allC ⟨_, Tryd.func14, by kernel_rfl, by kernel_rfl⟩ <|
  allC ⟨_, Tryd.func15, by kernel_rfl, by kernel_rfl⟩ <|
  allC ⟨_, Tryd.func17, by kernel_rfl, by kernel_rfl⟩ <|
  allC ⟨_, Tryd.func18, by kernel_rfl, by kernel_rfl⟩ <|
  allC ⟨_, Tryd.func19, by kernel_rfl, by kernel_rfl⟩ <|
  allC ⟨_, Tryd.func20, by kernel_rfl, by kernel_rfl⟩ <|
  allC ⟨_, Tryd.func21, by kernel_rfl, by kernel_rfl⟩ <|
  allC ⟨_, Tryd.func22, by kernel_rfl, by kernel_rfl⟩ <|
  allC ⟨_, Tryd.func23, by kernel_rfl, by kernel_rfl⟩ <|
  allC ⟨_, Tryd.func24, by kernel_rfl, by kernel_rfl⟩ <|
  allC ⟨_, Tryd.func25, by kernel_rfl, by kernel_rfl⟩ <|
  allC ⟨_, Tryd.func26, by kernel_rfl, by kernel_rfl⟩ <|
  allC ⟨_, Tryd.func32, by kernel_rfl, by kernel_rfl⟩ <|
  allC ⟨_, Tryd.func33, by kernel_rfl, by kernel_rfl⟩ <|
  allC ⟨_, Tryd.func34, by kernel_rfl, by kernel_rfl⟩ <|
  allC ⟨_, Tryd.func35, by kernel_rfl, by kernel_rfl⟩ <|
  allC ⟨_, Tryd.func16, by kernel_rfl, by kernel_rfl⟩ <|
  allC ⟨_, Tryd.func27, by kernel_rfl, by kernel_rfl⟩ <|
  allC ⟨_, Tryd.func28, by kernel_rfl, by kernel_rfl⟩ <|
  allC ⟨_, Tryd.func29, by kernel_rfl, by kernel_rfl⟩ <|
  allC ⟨_, Tryd.func30, by kernel_rfl, by kernel_rfl⟩ <|
  allC ⟨_, Tryd.func31, by kernel_rfl, by kernel_rfl⟩ <|
  allC ⟨_, Tryd.func36, by kernel_rfl, by kernel_rfl⟩ <|
  allC ⟨_, Tryd.func37, by kernel_rfl, by kernel_rfl⟩ <|
  allC ⟨_, Tryd.func38, by kernel_rfl, by kernel_rfl⟩ <|
  allC ⟨_, Tryd.func39, by kernel_rfl, by kernel_rfl⟩ <|
  allC ⟨_, Tryd.func40, by kernel_rfl, by kernel_rfl⟩ <|
  allC ⟨_, Tryd.func41, by kernel_rfl, by kernel_rfl⟩ <|
  allC ⟨_, Tryd.func42, by kernel_rfl, by kernel_rfl⟩ <|
  allC ⟨_, Tryd.func43, by kernel_rfl, by kernel_rfl⟩ <|
  allC ⟨_, Tryd.func44, by kernel_rfl, by kernel_rfl⟩ <|
  allC ⟨_, Tryd.func45, by kernel_rfl, by kernel_rfl⟩ <|
  allC ⟨_, Tryd.func46, by kernel_rfl, by kernel_rfl⟩ <|
  allC ⟨_, Tryd.func49, by kernel_rfl, by kernel_rfl⟩ <|
  allC ⟨_, Tryd.func50, by kernel_rfl, by kernel_rfl⟩ <|
  allC ⟨_, Tryd.func51, by kernel_rfl, by kernel_rfl⟩ <|
  allC ⟨_, Tryd.func52, by kernel_rfl, by kernel_rfl⟩ <|
  allC ⟨_, Tryd.func53, by kernel_rfl, by kernel_rfl⟩ <|
  allC ⟨_, Tryd.func54, by kernel_rfl, by kernel_rfl⟩ <|
  allC ⟨_, Tryd.func55, by kernel_rfl, by kernel_rfl⟩ <|
  allC ⟨_, Tryd.func56, by kernel_rfl, by kernel_rfl⟩ <|
  allC ⟨_, Tryd.func57, by kernel_rfl, by kernel_rfl⟩ <|
  allC ⟨_, Tryd.func58, by kernel_rfl, by kernel_rfl⟩ <|
  allC ⟨_, Tryd.func59, by kernel_rfl, by kernel_rfl⟩ <|
  allC ⟨_, Tryd.func60, by kernel_rfl, by kernel_rfl⟩ <|
  allC ⟨_, Tryd.func61, by kernel_rfl, by kernel_rfl⟩ <|
  allC ⟨_, Tryd.func62, by kernel_rfl, by kernel_rfl⟩ <|
  allC ⟨_, Tryd.func63, by kernel_rfl, by kernel_rfl⟩ <|
  allC ⟨_, Tryd.func64, by kernel_rfl, by kernel_rfl⟩ <|
  allC ⟨_, Tryd.func65, by kernel_rfl, by kernel_rfl⟩ <|
  allC ⟨_, Tryd.func66, by kernel_rfl, by kernel_rfl⟩ <|
  allC ⟨_, Tryd.func67, by kernel_rfl, by kernel_rfl⟩ <|
  allC ⟨_, Tryd.func68, by kernel_rfl, by kernel_rfl⟩ <|
  allC ⟨_, Tryd.func70, by kernel_rfl, by kernel_rfl⟩ <|
  allC ⟨_, Tryd.func71, by kernel_rfl, by kernel_rfl⟩ <|
  allC ⟨_, Tryd.func72, by kernel_rfl, by kernel_rfl⟩ <|
  allC ⟨_, Tryd.func73, by kernel_rfl, by kernel_rfl⟩ <|
  allC ⟨_, Tryd.func74, by kernel_rfl, by kernel_rfl⟩ <|
  allC ⟨_, Tryd.func75, by kernel_rfl, by kernel_rfl⟩ <|
  allC ⟨_, Tryd.func76, by kernel_rfl, by kernel_rfl⟩ <|
  allC ⟨_, Tryd.func77, by kernel_rfl, by kernel_rfl⟩ <|
  allC ⟨_, Tryd.func78, by kernel_rfl, by kernel_rfl⟩ <|
  allC ⟨_, Tryd.func79, by kernel_rfl, by kernel_rfl⟩ <|
  allC ⟨_, Tryd.func80, by kernel_rfl, by kernel_rfl⟩ <|
  allC ⟨_, Tryd.func81, by kernel_rfl, by kernel_rfl⟩ <|
  allC ⟨_, Tryd.func82, by kernel_rfl, by kernel_rfl⟩ <|
  allC ⟨_, Tryd.func83, by kernel_rfl, by kernel_rfl⟩ <|
  allC ⟨_, Tryd.func85, by kernel_rfl, by kernel_rfl⟩ <|
  allC ⟨_, Tryd.func86, by kernel_rfl, by kernel_rfl⟩ <|
  allC ⟨_, Tryd.func87, by kernel_rfl, by kernel_rfl⟩ <|
  allC ⟨_, Tryd.func88, by kernel_rfl, by kernel_rfl⟩ <|
  allC ⟨_, Tryd.func89, by kernel_rfl, by kernel_rfl⟩ <|
  allC ⟨_, Tryd.func90, by kernel_rfl, by kernel_rfl⟩ <|
  allC ⟨_, Tryd.func91, by kernel_rfl, by kernel_rfl⟩ <|
  allC ⟨_, Tryd.func92, by kernel_rfl, by kernel_rfl⟩ <|
  allC ⟨_, Tryd.func93, by kernel_rfl, by kernel_rfl⟩ <|
  allC ⟨_, Tryd.func95, by kernel_rfl, by kernel_rfl⟩ <|
  allC ⟨_, Tryd.func96, by kernel_rfl, by kernel_rfl⟩ <|
  allC ⟨_, Tryd.func97, by kernel_rfl, by kernel_rfl⟩ <|
  allC ⟨_, Tryd.func98, by kernel_rfl, by kernel_rfl⟩ <|
  allC ⟨_, Tryd.func129, by kernel_rfl, by kernel_rfl⟩ <|
  allC ⟨_, Tryd.func2, by kernel_rfl, by kernel_rfl⟩ <|
  allN

theorem good : Good Tryd.prog gam := fun g fid h => goodAll (g, fid) (lk_mem gtbl g fid h)

theorem mixed : Tryd.prog.follows .mixedOrders = true := by kernel_rfl

end Go.Proofs.YtkgaiedbbhadnaaDoor
