/-
  Each clean text is that of the model's function: printed by a program, tested by Lean's kernel.
-/
import Derived.Test.YtkgaiedbbhadnaaGreatDoorM2
import Derived.Test.YtkgaiedbbhadnaaGreatDoorS
import Derived.Test.YtkgaiedbbhadnaaGreatDoorChecked
import Derived.KernelRfl
namespace Go.Proofs.YtkgaiedbbhadnaaGreatDoor
open Go Go.Cl

def gtbl : List (Nat × Nat) := [
  (239, 3),
  (243, 4),
  (245, 5),
  (218, 10),
  (67, 11),
  (68, 12),
  (219, 13),
  (240, 14),
  (51, 15),
  (33, 16),
  (223, 17),
  (241, 18),
  (221, 19),
  (222, 20),
  (242, 21),
  (32, 22),
  (244, 23),
  (224, 35),
  (225, 36),
  (66, 37),
  (99, 38),
  (226, 39),
  (227, 40),
  (92, 42),
  (229, 43),
  (228, 44),
  (230, 45),
  (231, 46),
  (232, 47),
  (233, 48),
  (260, 49),
  (101, 50),
  (261, 51),
  (93, 52),
  (262, 53),
  (263, 54),
  (95, 55),
  (264, 56),
  (235, 72),
  (234, 73),
  (236, 79),
  (237, 80),
  (94, 81),
  (238, 98),
  (128, 41),
  (126, 74),
  (167, 75),
  (136, 76),
  (137, 77),
  (122, 78),
  (121, 83),
  (151, 99),
  (152, 100),
  (184, 101),
  (140, 102),
  (123, 103),
  (124, 104),
  (125, 105),
  (139, 111),
  (180, 117),
  (181, 118),
  (182, 119),
  (183, 120),
  (154, 123),
  (155, 124),
  (156, 125),
  (141, 126),
  (143, 127),
  (142, 128),
  (144, 129),
  (146, 130),
  (145, 131),
  (148, 132),
  (147, 133),
  (149, 134),
  (150, 135),
  (153, 141),
  (187, 144),
  (188, 145),
  (189, 146),
  (190, 147),
  (191, 148),
  (169, 149),
  (159, 150),
  (171, 152),
  (157, 153),
  (158, 154),
  (160, 155),
  (161, 156),
  (162, 157),
  (163, 158),
  (164, 159),
  (165, 160),
  (166, 161),
  (192, 165),
  (193, 166),
  (172, 167),
  (195, 168),
  (198, 170),
  (199, 171),
  (173, 172),
  (174, 173),
  (175, 174),
  (176, 175),
  (177, 176),
  (179, 177),
  (178, 178),
  (200, 180),
  (201, 181),
  (202, 182),
  (186, 183),
  (216, 214),
  (2, 2)]

def ttbl : List (Nat × Nat) := [(1, 220), (2, 223), (3, 243), (4, 5), (5, 132), (6, 9)]

def gam : Gam where
  F := S.lk gtbl
  T := fun t => (S.lk ttbl t).getD 0
  K := [.pin 0 (.ints .u64 [1, 10, 100, 1000, 10000, 100000, 1000000, 10000000, 100000000, 1000000000, 10000000000, 100000000000, 1000000000000, 10000000000000, 100000000000000, 1000000000000000, 10000000000000000, 100000000000000000, 1000000000000000000, 10000000000000000000]), .pin 1 (.anyInt .i64), .pin 2 (.anyIfc), .pin 3 (.anyIfc)]

theorem link239 : funM Tryz.prog gam S.f239 Tryz.f3 = true := by kernel_rfl
theorem link243 : funM Tryz.prog gam S.f243 Tryz.f4 = true := by kernel_rfl
theorem link245 : funM Tryz.prog gam S.f245 Tryz.f5 = true := by kernel_rfl
theorem link218 : funM Tryz.prog gam S.f218 Tryz.f10 = true := by kernel_rfl
theorem link67 : funM Tryz.prog gam S.f67 Tryz.f11 = true := by kernel_rfl
theorem link68 : funM Tryz.prog gam S.f68 Tryz.f12 = true := by kernel_rfl
theorem link219 : funM Tryz.prog gam S.f219 Tryz.f13 = true := by kernel_rfl
theorem link240 : funM Tryz.prog gam S.f240 Tryz.f14 = true := by kernel_rfl
theorem link51 : funM Tryz.prog gam S.f51 Tryz.f15 = true := by kernel_rfl
theorem link33 : funM Tryz.prog gam S.f33 Tryz.f16 = true := by kernel_rfl
theorem link223 : funM Tryz.prog gam S.f223 Tryz.f17 = true := by kernel_rfl
theorem link241 : funM Tryz.prog gam S.f241 Tryz.f18 = true := by kernel_rfl
theorem link221 : funM Tryz.prog gam S.f221 Tryz.f19 = true := by kernel_rfl
theorem link222 : funM Tryz.prog gam S.f222 Tryz.f20 = true := by kernel_rfl
theorem link242 : funM Tryz.prog gam S.f242 Tryz.f21 = true := by kernel_rfl
theorem link32 : funM Tryz.prog gam S.f32 Tryz.f22 = true := by kernel_rfl
theorem link244 : funM Tryz.prog gam S.f244 Tryz.f23 = true := by kernel_rfl
theorem link224 : funM Tryz.prog gam S.f224 Tryz.f35 = true := by kernel_rfl
theorem link225 : funM Tryz.prog gam S.f225 Tryz.f36 = true := by kernel_rfl
theorem link66 : funM Tryz.prog gam S.f66 Tryz.f37 = true := by kernel_rfl
theorem link99 : funM Tryz.prog gam S.f99 Tryz.f38 = true := by kernel_rfl
theorem link226 : funM Tryz.prog gam S.f226 Tryz.f39 = true := by kernel_rfl
theorem link227 : funM Tryz.prog gam S.f227 Tryz.f40 = true := by kernel_rfl
theorem link92 : funM Tryz.prog gam S.f92 Tryz.f42 = true := by kernel_rfl
theorem link229 : funM Tryz.prog gam S.f229 Tryz.f43 = true := by kernel_rfl
theorem link228 : funM Tryz.prog gam S.f228 Tryz.f44 = true := by kernel_rfl
theorem link230 : funM Tryz.prog gam S.f230 Tryz.f45 = true := by kernel_rfl
theorem link231 : funM Tryz.prog gam S.f231 Tryz.f46 = true := by kernel_rfl
theorem link232 : funM Tryz.prog gam S.f232 Tryz.f47 = true := by kernel_rfl
theorem link233 : funM Tryz.prog gam S.f233 Tryz.f48 = true := by kernel_rfl
theorem link260 : funM Tryz.prog gam S.f260 Tryz.f49 = true := by kernel_rfl
theorem link101 : funM Tryz.prog gam S.f101 Tryz.f50 = true := by kernel_rfl
theorem link261 : funM Tryz.prog gam S.f261 Tryz.f51 = true := by kernel_rfl
theorem link93 : funM Tryz.prog gam S.f93 Tryz.f52 = true := by kernel_rfl
theorem link262 : funM Tryz.prog gam S.f262 Tryz.f53 = true := by kernel_rfl
theorem link263 : funM Tryz.prog gam S.f263 Tryz.f54 = true := by kernel_rfl
theorem link95 : funM Tryz.prog gam S.f95 Tryz.f55 = true := by kernel_rfl
theorem link264 : funM Tryz.prog gam S.f264 Tryz.f56 = true := by kernel_rfl
theorem link235 : funM Tryz.prog gam S.f235 Tryz.f72 = true := by kernel_rfl
theorem link234 : funM Tryz.prog gam S.f234 Tryz.f73 = true := by kernel_rfl
theorem link236 : funM Tryz.prog gam S.f236 Tryz.f79 = true := by kernel_rfl
theorem link237 : funM Tryz.prog gam S.f237 Tryz.f80 = true := by kernel_rfl
theorem link94 : funM Tryz.prog gam S.f94 Tryz.f81 = true := by kernel_rfl
theorem link238 : funM Tryz.prog gam S.f238 Tryz.f98 = true := by kernel_rfl

theorem lk_mem {α : Type} : ∀ (l : List (Nat × α)) (i : Nat) (v : α), S.lk l i = some v → (i, v) ∈ l
  | [], i, v, h => by cases h
  | (k, u) :: r, i, v, h => by
    unfold S.lk at h
    cases hb : Nat.beq i k with
    | true =>
      rw [hb] at h
      have := Nat.eq_of_beq_eq_true hb
      subst this
      cases h
      exact List.mem_cons_self
    | false => rw [hb] at h; exact List.mem_cons_of_mem _ (lk_mem r i v h)

theorem lkYes {g fid : Nat} {sf : SFunc} {fn : Func} (h1 : S.pg g = some sf) (h2 : Tryz.prog.funcs[fid]? = some fn) (h3 : funM Tryz.prog gam sf fn = true) : ∀ sf', S.pg g = some sf' → ∃ fn, Tryz.prog.funcs[fid]? = some fn ∧ funM Tryz.prog gam sf' fn = true :=
  fun sf' h => by rw [h1] at h; cases h; exact ⟨fn, h2, h3⟩
theorem lkNo {g fid : Nat} (h1 : S.pg g = none) : ∀ sf', S.pg g = some sf' → ∃ fn, Tryz.prog.funcs[fid]? = some fn ∧ funM Tryz.prog gam sf' fn = true :=
  fun sf' h => by rw [h1] at h; cases h
theorem allN {p : Nat × Nat → Prop} : ∀ x ∈ ([] : List (Nat × Nat)), p x := fun _ h => by cases h
theorem allC {p : Nat × Nat → Prop} {a : Nat × Nat} {l : List (Nat × Nat)} (h : p a) (k : ∀ x ∈ l, p x) : ∀ x ∈ a :: l, p x := fun x hx => by
  rcases List.mem_cons.1 hx with rfl | hx
  · exact h
  · exact k x hx

theorem linkedAll : ∀ x ∈ gtbl, ∀ sf', S.pg x.1 = some sf' → ∃ fn, Tryz.prog.funcs[x.2]? = some fn ∧ funM Tryz.prog gam sf' fn = true :=
  allC (lkYes S.pg239 Tryz.func3 link239) <|
  allC (lkYes S.pg243 Tryz.func4 link243) <|
  allC (lkYes S.pg245 Tryz.func5 link245) <|
  allC (lkYes S.pg218 Tryz.func10 link218) <|
  allC (lkYes S.pg67 Tryz.func11 link67) <|
  allC (lkYes S.pg68 Tryz.func12 link68) <|
  allC (lkYes S.pg219 Tryz.func13 link219) <|
  allC (lkYes S.pg240 Tryz.func14 link240) <|
  allC (lkYes S.pg51 Tryz.func15 link51) <|
  allC (lkYes S.pg33 Tryz.func16 link33) <|
  allC (lkYes S.pg223 Tryz.func17 link223) <|
  allC (lkYes S.pg241 Tryz.func18 link241) <|
  allC (lkYes S.pg221 Tryz.func19 link221) <|
  allC (lkYes S.pg222 Tryz.func20 link222) <|
  allC (lkYes S.pg242 Tryz.func21 link242) <|
  allC (lkYes S.pg32 Tryz.func22 link32) <|
  allC (lkYes S.pg244 Tryz.func23 link244) <|
  allC (lkYes S.pg224 Tryz.func35 link224) <|
  allC (lkYes S.pg225 Tryz.func36 link225) <|
  allC (lkYes S.pg66 Tryz.func37 link66) <|
  allC (lkYes S.pg99 Tryz.func38 link99) <|
  allC (lkYes S.pg226 Tryz.func39 link226) <|
  allC (lkYes S.pg227 Tryz.func40 link227) <|
  allC (lkYes S.pg92 Tryz.func42 link92) <|
  allC (lkYes S.pg229 Tryz.func43 link229) <|
  allC (lkYes S.pg228 Tryz.func44 link228) <|
  allC (lkYes S.pg230 Tryz.func45 link230) <|
  allC (lkYes S.pg231 Tryz.func46 link231) <|
  allC (lkYes S.pg232 Tryz.func47 link232) <|
  allC (lkYes S.pg233 Tryz.func48 link233) <|
  allC (lkYes S.pg260 Tryz.func49 link260) <|
  allC (lkYes S.pg101 Tryz.func50 link101) <|
  allC (lkYes S.pg261 Tryz.func51 link261) <|
  allC (lkYes S.pg93 Tryz.func52 link93) <|
  allC (lkYes S.pg262 Tryz.func53 link262) <|
  allC (lkYes S.pg263 Tryz.func54 link263) <|
  allC (lkYes S.pg95 Tryz.func55 link95) <|
  allC (lkYes S.pg264 Tryz.func56 link264) <|
  allC (lkYes S.pg235 Tryz.func72 link235) <|
  allC (lkYes S.pg234 Tryz.func73 link234) <|
  allC (lkYes S.pg236 Tryz.func79 link236) <|
  allC (lkYes S.pg237 Tryz.func80 link237) <|
  allC (lkYes S.pg94 Tryz.func81 link94) <|
  allC (lkYes S.pg238 Tryz.func98 link238) <|
  allC (lkNo rfl) <|
  allC (lkNo rfl) <|
  allC (lkNo rfl) <|
  allC (lkNo rfl) <|
  allC (lkNo rfl) <|
  allC (lkNo rfl) <|
  allC (lkNo rfl) <|
  allC (lkNo rfl) <|
  allC (lkNo rfl) <|
  allC (lkNo rfl) <|
  allC (lkNo rfl) <|
  allC (lkNo rfl) <|
  allC (lkNo rfl) <|
  allC (lkNo rfl) <|
  allC (lkNo rfl) <|
  allC (lkNo rfl) <|
  allC (lkNo rfl) <|
  allC (lkNo rfl) <|
  allC (lkNo rfl) <|
  allC (lkNo rfl) <|
  allC (lkNo rfl) <|
  allC (lkNo rfl) <|
  allC (lkNo rfl) <|
  allC (lkNo rfl) <|
  allC (lkNo rfl) <|
  allC (lkNo rfl) <|
  allC (lkNo rfl) <|
  allC (lkNo rfl) <|
  allC (lkNo rfl) <|
  allC (lkNo rfl) <|
  allC (lkNo rfl) <|
  allC (lkNo rfl) <|
  allC (lkNo rfl) <|
  allC (lkNo rfl) <|
  allC (lkNo rfl) <|
  allC (lkNo rfl) <|
  allC (lkNo rfl) <|
  allC (lkNo rfl) <|
  allC (lkNo rfl) <|
  allC (lkNo rfl) <|
  allC (lkNo rfl) <|
  allC (lkNo rfl) <|
  allC (lkNo rfl) <|
  allC (lkNo rfl) <|
  allC (lkNo rfl) <|
  allC (lkNo rfl) <|
  allC (lkNo rfl) <|
  allC (lkNo rfl) <|
  allC (lkNo rfl) <|
  allC (lkNo rfl) <|
  allC (lkNo rfl) <|
  allC (lkNo rfl) <|
  allC (lkNo rfl) <|
  allC (lkNo rfl) <|
  allC (lkNo rfl) <|
  allC (lkNo rfl) <|
  allC (lkNo rfl) <|
  allC (lkNo rfl) <|
  allC (lkNo rfl) <|
  allC (lkNo rfl) <|
  allC (lkNo rfl) <|
  allC (lkNo rfl) <|
  allC (lkNo rfl) <|
  allC (lkNo rfl) <|
  allC (lkNo rfl) <|
  allC (lkNo rfl) <|
  allC (lkNo rfl) <|
  allC (lkNo rfl) <|
  allC (lkNo rfl) <|
  allN

theorem linked : Linked Tryz.prog gam S.pg := fun f fid hf sf hs => linkedAll (f, fid) (lk_mem gtbl f fid hf) sf hs

theorem goodAll : ∀ x ∈ gtbl, ∃ fn, Tryz.prog.funcs[x.2]? = some fn ∧ fn.body.isNone = false ∧ (fn.name == "runtime.NumGoroutine") = false :=
  allC ⟨_, Tryz.func3, by kernel_rfl, by kernel_rfl⟩ <|
  allC ⟨_, Tryz.func4, by kernel_rfl, by kernel_rfl⟩ <|
  allC ⟨_, Tryz.func5, by kernel_rfl, by kernel_rfl⟩ <|
  allC ⟨_, Tryz.func10, by kernel_rfl, by kernel_rfl⟩ <|
  allC ⟨_, Tryz.func11, by kernel_rfl, by kernel_rfl⟩ <|
  allC ⟨_, Tryz.func12, by kernel_rfl, by kernel_rfl⟩ <|
  allC ⟨_, Tryz.func13, by kernel_rfl, by kernel_rfl⟩ <|
  allC ⟨_, Tryz.func14, by kernel_rfl, by kernel_rfl⟩ <|
  allC ⟨_, Tryz.func15, by kernel_rfl, by kernel_rfl⟩ <|
  allC ⟨_, Tryz.func16, by kernel_rfl, by kernel_rfl⟩ <|
  allC ⟨_, Tryz.func17, by kernel_rfl, by kernel_rfl⟩ <|
  allC ⟨_, Tryz.func18, by kernel_rfl, by kernel_rfl⟩ <|
  allC ⟨_, Tryz.func19, by kernel_rfl, by kernel_rfl⟩ <|
  allC ⟨_, Tryz.func20, by kernel_rfl, by kernel_rfl⟩ <|
  allC ⟨_, Tryz.func21, by kernel_rfl, by kernel_rfl⟩ <|
  allC ⟨_, Tryz.func22, by kernel_rfl, by kernel_rfl⟩ <|
  allC ⟨_, Tryz.func23, by kernel_rfl, by kernel_rfl⟩ <|
  allC ⟨_, Tryz.func35, by kernel_rfl, by kernel_rfl⟩ <|
  allC ⟨_, Tryz.func36, by kernel_rfl, by kernel_rfl⟩ <|
  allC ⟨_, Tryz.func37, by kernel_rfl, by kernel_rfl⟩ <|
  allC ⟨_, Tryz.func38, by kernel_rfl, by kernel_rfl⟩ <|
  allC ⟨_, Tryz.func39, by kernel_rfl, by kernel_rfl⟩ <|
  allC ⟨_, Tryz.func40, by kernel_rfl, by kernel_rfl⟩ <|
  allC ⟨_, Tryz.func42, by kernel_rfl, by kernel_rfl⟩ <|
  allC ⟨_, Tryz.func43, by kernel_rfl, by kernel_rfl⟩ <|
  allC ⟨_, Tryz.func44, by kernel_rfl, by kernel_rfl⟩ <|
  allC ⟨_, Tryz.func45, by kernel_rfl, by kernel_rfl⟩ <|
  allC ⟨_, Tryz.func46, by kernel_rfl, by kernel_rfl⟩ <|
  allC ⟨_, Tryz.func47, by kernel_rfl, by kernel_rfl⟩ <|
  allC ⟨_, Tryz.func48, by kernel_rfl, by kernel_rfl⟩ <|
  allC ⟨_, Tryz.func49, by kernel_rfl, by kernel_rfl⟩ <|
  allC ⟨_, Tryz.func50, by kernel_rfl, by kernel_rfl⟩ <|
  allC ⟨_, Tryz.func51, by kernel_rfl, by kernel_rfl⟩ <|
  allC ⟨_, Tryz.func52, by kernel_rfl, by kernel_rfl⟩ <|
  allC ⟨_, Tryz.func53, by kernel_rfl, by kernel_rfl⟩ <|
  allC ⟨_, Tryz.func54, by kernel_rfl, by kernel_rfl⟩ <|
  allC ⟨_, Tryz.func55, by kernel_rfl, by kernel_rfl⟩ <|
  allC ⟨_, Tryz.func56, by kernel_rfl, by kernel_rfl⟩ <|
  allC ⟨_, Tryz.func72, by kernel_rfl, by kernel_rfl⟩ <|
  allC ⟨_, Tryz.func73, by kernel_rfl, by kernel_rfl⟩ <|
  allC ⟨_, Tryz.func79, by kernel_rfl, by kernel_rfl⟩ <|
  allC ⟨_, Tryz.func80, by kernel_rfl, by kernel_rfl⟩ <|
  allC ⟨_, Tryz.func81, by kernel_rfl, by kernel_rfl⟩ <|
  allC ⟨_, Tryz.func98, by kernel_rfl, by kernel_rfl⟩ <|
  allC ⟨_, Tryz.func41, by kernel_rfl, by kernel_rfl⟩ <|
  allC ⟨_, Tryz.func74, by kernel_rfl, by kernel_rfl⟩ <|
  allC ⟨_, Tryz.func75, by kernel_rfl, by kernel_rfl⟩ <|
  allC ⟨_, Tryz.func76, by kernel_rfl, by kernel_rfl⟩ <|
  allC ⟨_, Tryz.func77, by kernel_rfl, by kernel_rfl⟩ <|
  allC ⟨_, Tryz.func78, by kernel_rfl, by kernel_rfl⟩ <|
  allC ⟨_, Tryz.func83, by kernel_rfl, by kernel_rfl⟩ <|
  allC ⟨_, Tryz.func99, by kernel_rfl, by kernel_rfl⟩ <|
  allC ⟨_, Tryz.func100, by kernel_rfl, by kernel_rfl⟩ <|
  allC ⟨_, Tryz.func101, by kernel_rfl, by kernel_rfl⟩ <|
  allC ⟨_, Tryz.func102, by kernel_rfl, by kernel_rfl⟩ <|
  allC ⟨_, Tryz.func103, by kernel_rfl, by kernel_rfl⟩ <|
  allC ⟨_, Tryz.func104, by kernel_rfl, by kernel_rfl⟩ <|
  allC ⟨_, Tryz.func105, by kernel_rfl, by kernel_rfl⟩ <|
  allC ⟨_, Tryz.func111, by kernel_rfl, by kernel_rfl⟩ <|
  allC ⟨_, Tryz.func117, by kernel_rfl, by kernel_rfl⟩ <|
  allC ⟨_, Tryz.func118, by kernel_rfl, by kernel_rfl⟩ <|
  allC ⟨_, Tryz.func119, by kernel_rfl, by kernel_rfl⟩ <|
  allC ⟨_, Tryz.func120, by kernel_rfl, by kernel_rfl⟩ <|
  allC ⟨_, Tryz.func123, by kernel_rfl, by kernel_rfl⟩ <|
  allC ⟨_, Tryz.func124, by kernel_rfl, by kernel_rfl⟩ <|
  allC ⟨_, Tryz.func125, by kernel_rfl, by kernel_rfl⟩ <|
  allC ⟨_, Tryz.func126, by kernel_rfl, by kernel_rfl⟩ <|
  allC ⟨_, Tryz.func127, by kernel_rfl, by kernel_rfl⟩ <|
  allC ⟨_, Tryz.func128, by kernel_rfl, by kernel_rfl⟩ <|
  allC ⟨_, Tryz.func129, by kernel_rfl, by kernel_rfl⟩ <|
  allC ⟨_, Tryz.func130, by kernel_rfl, by kernel_rfl⟩ <|
  allC ⟨_, Tryz.func131, by kernel_rfl, by kernel_rfl⟩ <|
  allC ⟨_, Tryz.func132, by kernel_rfl, by kernel_rfl⟩ <|
  allC ⟨_, Tryz.func133, by kernel_rfl, by kernel_rfl⟩ <|
  allC ⟨_, Tryz.func134, by kernel_rfl, by kernel_rfl⟩ <|
  allC ⟨_, Tryz.func135, by kernel_rfl, by kernel_rfl⟩ <|
  allC ⟨_, Tryz.func141, by kernel_rfl, by kernel_rfl⟩ <|
  allC ⟨_, Tryz.func144, by kernel_rfl, by kernel_rfl⟩ <|
  allC ⟨_, Tryz.func145, by kernel_rfl, by kernel_rfl⟩ <|
  allC ⟨_, Tryz.func146, by kernel_rfl, by kernel_rfl⟩ <|
  allC ⟨_, Tryz.func147, by kernel_rfl, by kernel_rfl⟩ <|
  allC ⟨_, Tryz.func148, by kernel_rfl, by kernel_rfl⟩ <|
  allC ⟨_, Tryz.func149, by kernel_rfl, by kernel_rfl⟩ <|
  allC ⟨_, Tryz.func150, by kernel_rfl, by kernel_rfl⟩ <|
  allC ⟨_, Tryz.func152, by kernel_rfl, by kernel_rfl⟩ <|
  allC ⟨_, Tryz.func153, by kernel_rfl, by kernel_rfl⟩ <|
  allC ⟨_, Tryz.func154, by kernel_rfl, by kernel_rfl⟩ <|
  allC ⟨_, Tryz.func155, by kernel_rfl, by kernel_rfl⟩ <|
  allC ⟨_, Tryz.func156, by kernel_rfl, by kernel_rfl⟩ <|
  allC ⟨_, Tryz.func157, by kernel_rfl, by kernel_rfl⟩ <|
  allC ⟨_, Tryz.func158, by kernel_rfl, by kernel_rfl⟩ <|
  allC ⟨_, Tryz.func159, by kernel_rfl, by kernel_rfl⟩ <|
  allC ⟨_, Tryz.func160, by kernel_rfl, by kernel_rfl⟩ <|
  allC ⟨_, Tryz.func161, by kernel_rfl, by kernel_rfl⟩ <|
  allC ⟨_, Tryz.func165, by kernel_rfl, by kernel_rfl⟩ <|
  allC ⟨_, Tryz.func166, by kernel_rfl, by kernel_rfl⟩ <|
  allC ⟨_, Tryz.func167, by kernel_rfl, by kernel_rfl⟩ <|
  allC ⟨_, Tryz.func168, by kernel_rfl, by kernel_rfl⟩ <|
  allC ⟨_, Tryz.func170, by kernel_rfl, by kernel_rfl⟩ <|
  allC ⟨_, Tryz.func171, by kernel_rfl, by kernel_rfl⟩ <|
  allC ⟨_, Tryz.func172, by kernel_rfl, by kernel_rfl⟩ <|
  allC ⟨_, Tryz.func173, by kernel_rfl, by kernel_rfl⟩ <|
  allC ⟨_, Tryz.func174, by kernel_rfl, by kernel_rfl⟩ <|
  allC ⟨_, Tryz.func175, by kernel_rfl, by kernel_rfl⟩ <|
  allC ⟨_, Tryz.func176, by kernel_rfl, by kernel_rfl⟩ <|
  allC ⟨_, Tryz.func177, by kernel_rfl, by kernel_rfl⟩ <|
  allC ⟨_, Tryz.func178, by kernel_rfl, by kernel_rfl⟩ <|
  allC ⟨_, Tryz.func180, by kernel_rfl, by kernel_rfl⟩ <|
  allC ⟨_, Tryz.func181, by kernel_rfl, by kernel_rfl⟩ <|
  allC ⟨_, Tryz.func182, by kernel_rfl, by kernel_rfl⟩ <|
  allC ⟨_, Tryz.func183, by kernel_rfl, by kernel_rfl⟩ <|
  allC ⟨_, Tryz.func214, by kernel_rfl, by kernel_rfl⟩ <|
  allC ⟨_, Tryz.func2, by kernel_rfl, by kernel_rfl⟩ <|
  allN

theorem good : Good Tryz.prog gam := fun g fid h => goodAll (g, fid) (lk_mem gtbl g fid h)

theorem mixed : Tryz.prog.follows .mixedOrders = true := by kernel_rfl

end Go.Proofs.YtkgaiedbbhadnaaGreatDoor
