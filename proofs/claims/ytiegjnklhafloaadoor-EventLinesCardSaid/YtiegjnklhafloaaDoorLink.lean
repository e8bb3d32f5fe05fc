/-
  Each clean text is that of the model's function: printed by a program, tested by Lean's kernel.
-/
import Derived.Test.YtiegjnklhafloaaDoorM2
import Derived.Test.YtiegjnklhafloaaDoorS
import Derived.Test.YtiegjnklhafloaaDoorChecked
import Derived.KernelRfl
namespace Go.Proofs.YtiegjnklhafloaaDoor
open Go Go.Cl

def gtbl : List (Nat × Nat) := [
  (88, 3),
  (100, 4),
  (102, 5),
  (103, 6),
  (104, 7),
  (105, 8),
  (106, 9),
  (115, 10),
  (118, 11),
  (119, 12),
  (120, 13),
  (89, 14),
  (90, 15),
  (91, 16),
  (92, 17),
  (93, 18),
  (94, 19),
  (95, 20),
  (96, 21),
  (97, 22),
  (98, 23),
  (99, 24),
  (101, 25),
  (107, 26),
  (108, 27),
  (109, 28),
  (110, 29),
  (111, 30),
  (112, 31),
  (113, 32),
  (114, 33),
  (116, 34),
  (117, 35),
  (127, 42),
  (130, 44),
  (129, 45),
  (131, 46),
  (132, 47),
  (133, 48),
  (134, 49),
  (135, 50),
  (138, 53),
  (168, 68),
  (121, 36),
  (122, 37),
  (123, 38),
  (124, 39),
  (125, 40),
  (126, 41),
  (128, 43),
  (136, 51),
  (137, 52),
  (139, 54),
  (140, 55),
  (141, 56),
  (143, 57),
  (142, 58),
  (144, 59),
  (146, 60),
  (145, 61),
  (148, 62),
  (147, 63),
  (149, 64),
  (150, 65),
  (151, 66),
  (167, 67),
  (152, 69),
  (153, 70),
  (154, 71),
  (155, 72),
  (156, 73),
  (157, 74),
  (158, 75),
  (159, 76),
  (160, 77),
  (161, 78),
  (162, 79),
  (163, 80),
  (164, 81),
  (165, 82),
  (166, 83),
  (180, 84),
  (181, 85),
  (182, 86),
  (183, 87),
  (184, 88),
  (169, 90),
  (171, 92),
  (172, 93),
  (173, 94),
  (174, 95),
  (175, 96),
  (176, 97),
  (177, 98),
  (179, 99),
  (178, 100),
  (187, 101),
  (188, 102),
  (189, 103),
  (190, 104),
  (191, 105),
  (195, 107),
  (198, 109),
  (199, 110),
  (201, 111),
  (202, 112),
  (186, 113),
  (192, 114),
  (193, 115),
  (200, 117),
  (216, 148),
  (2, 2)]

def ttbl : List (Nat × Nat) := [(1, 114), (2, 119), (3, 151), (4, 5), (5, 86), (6, 9)]

def gam : Gam where
  F := S.lk gtbl
  T := fun t => (S.lk ttbl t).getD 0
  K := [.pin 2 (.ints .u64 [1, 10, 100, 1000, 10000, 100000, 1000000, 10000000, 100000000, 1000000000, 10000000000, 100000000000, 1000000000000, 10000000000000, 100000000000000, 1000000000000000, 10000000000000000, 100000000000000000, 1000000000000000000, 10000000000000000000]), .pin 3 (.anyInt .i64), .pin 0 (.anyIfc), .pin 1 (.anyIfc)]

theorem link88 : funM Tryd.prog gam S.f88 Tryd.f3 = true := by kernel_rfl
theorem link100 : funM Tryd.prog gam S.f100 Tryd.f4 = true := by kernel_rfl
theorem link102 : funM Tryd.prog gam S.f102 Tryd.f5 = true := by kernel_rfl
theorem link103 : funM Tryd.prog gam S.f103 Tryd.f6 = true := by kernel_rfl
theorem link104 : funM Tryd.prog gam S.f104 Tryd.f7 = true := by kernel_rfl
theorem link105 : funM Tryd.prog gam S.f105 Tryd.f8 = true := by kernel_rfl
theorem link106 : funM Tryd.prog gam S.f106 Tryd.f9 = true := by kernel_rfl
theorem link115 : funM Tryd.prog gam S.f115 Tryd.f10 = true := by kernel_rfl
theorem link118 : funM Tryd.prog gam S.f118 Tryd.f11 = true := by kernel_rfl
theorem link119 : funM Tryd.prog gam S.f119 Tryd.f12 = true := by kernel_rfl
theorem link120 : funM Tryd.prog gam S.f120 Tryd.f13 = true := by kernel_rfl
theorem link89 : funM Tryd.prog gam S.f89 Tryd.f14 = true := by kernel_rfl
theorem link90 : funM Tryd.prog gam S.f90 Tryd.f15 = true := by kernel_rfl
theorem link91 : funM Tryd.prog gam S.f91 Tryd.f16 = true := by kernel_rfl
theorem link92 : funM Tryd.prog gam S.f92 Tryd.f17 = true := by kernel_rfl
theorem link93 : funM Tryd.prog gam S.f93 Tryd.f18 = true := by kernel_rfl
theorem link94 : funM Tryd.prog gam S.f94 Tryd.f19 = true := by kernel_rfl
theorem link95 : funM Tryd.prog gam S.f95 Tryd.f20 = true := by kernel_rfl
theorem link96 : funM Tryd.prog gam S.f96 Tryd.f21 = true := by kernel_rfl
theorem link97 : funM Tryd.prog gam S.f97 Tryd.f22 = true := by kernel_rfl
theorem link98 : funM Tryd.prog gam S.f98 Tryd.f23 = true := by kernel_rfl
theorem link99 : funM Tryd.prog gam S.f99 Tryd.f24 = true := by kernel_rfl
theorem link101 : funM Tryd.prog gam S.f101 Tryd.f25 = true := by kernel_rfl
theorem link107 : funM Tryd.prog gam S.f107 Tryd.f26 = true := by kernel_rfl
theorem link108 : funM Tryd.prog gam S.f108 Tryd.f27 = true := by kernel_rfl
theorem link109 : funM Tryd.prog gam S.f109 Tryd.f28 = true := by kernel_rfl
theorem link110 : funM Tryd.prog gam S.f110 Tryd.f29 = true := by kernel_rfl
theorem link111 : funM Tryd.prog gam S.f111 Tryd.f30 = true := by kernel_rfl
theorem link112 : funM Tryd.prog gam S.f112 Tryd.f31 = true := by kernel_rfl
theorem link113 : funM Tryd.prog gam S.f113 Tryd.f32 = true := by kernel_rfl
theorem link114 : funM Tryd.prog gam S.f114 Tryd.f33 = true := by kernel_rfl
theorem link116 : funM Tryd.prog gam S.f116 Tryd.f34 = true := by kernel_rfl
theorem link117 : funM Tryd.prog gam S.f117 Tryd.f35 = true := by kernel_rfl
theorem link127 : funM Tryd.prog gam S.f127 Tryd.f42 = true := by kernel_rfl
theorem link130 : funM Tryd.prog gam S.f130 Tryd.f44 = true := by kernel_rfl
theorem link129 : funM Tryd.prog gam S.f129 Tryd.f45 = true := by kernel_rfl
theorem link131 : funM Tryd.prog gam S.f131 Tryd.f46 = true := by kernel_rfl
theorem link132 : funM Tryd.prog gam S.f132 Tryd.f47 = true := by kernel_rfl
theorem link133 : funM Tryd.prog gam S.f133 Tryd.f48 = true := by kernel_rfl
theorem link134 : funM Tryd.prog gam S.f134 Tryd.f49 = true := by kernel_rfl
theorem link135 : funM Tryd.prog gam S.f135 Tryd.f50 = true := by kernel_rfl
theorem link138 : funM Tryd.prog gam S.f138 Tryd.f53 = true := by kernel_rfl
theorem link168 : funM Tryd.prog gam S.f168 Tryd.f68 = true := by kernel_rfl

theorem lk_mem {α : Type} : ∀ (l : List (Nat × α)) (i : Nat) (v : α), S.lk l i = some v → (i, v) ∈ l
  | [], i, v, h => by cases h
  | (k, u) :: r, i, v, h => by
    unfold S.lk at h
    cases hb : Nat.beq i k with
    | true =>
      rw [hb] at h
      have := Nat.eq_of_beq_eq_true hb
      subst this
      cases h
      exact List.mem_cons_self
    | false => rw [hb] at h; exact List.mem_cons_of_mem _ (lk_mem r i v h)

theorem lkYes {g fid : Nat} {sf : SFunc} {fn : Func} (h1 : S.pg g = some sf) (h2 : Tryd.prog.funcs[fid]? = some fn) (h3 : funM Tryd.prog gam sf fn = true) : ∀ sf', S.pg g = some sf' → ∃ fn, Tryd.prog.funcs[fid]? = some fn ∧ funM Tryd.prog gam sf' fn = true :=
  fun sf' h => by rw [h1] at h; cases h; exact ⟨fn, h2, h3⟩
theorem lkNo {g fid : Nat} (h1 : S.pg g = none) : ∀ sf', S.pg g = some sf' → ∃ fn, Tryd.prog.funcs[fid]? = some fn ∧ funM Tryd.prog gam sf' fn = true :=
  fun sf' h => by rw [h1] at h; cases h
theorem allN {p : Nat × Nat → Prop} : ∀ x ∈ ([] : List (Nat × Nat)), p x := fun _ h => by cases h
theorem allC {p : Nat × Nat → Prop} {a : Nat × Nat} {l : List (Nat × Nat)} (h : p a) (k : ∀ x ∈ l, p x) : ∀ x ∈ a :: l, p x := fun x hx => by
  rcases List.mem_cons.1 hx with rfl | hx
  · exact h
  · exact k x hx

theorem linkedAll : ∀ x ∈ gtbl, ∀ sf', S.pg x.1 = some sf' → ∃ fn, Tryd.prog.funcs[x.2]? = some fn ∧ funM Tryd.prog gam sf' fn = true :=
  allC (lkYes S.pg88 Tryd.func3 link88) <|
  allC (lkYes S.pg100 Tryd.func4 link100) <|
  allC (lkYes S.pg102 Tryd.func5 link102) <|
  allC (lkYes S.pg103 Tryd.func6 link103) <|
  allC (lkYes S.pg104 Tryd.func7 link104) <|
  allC (lkYes S.pg105 Tryd.func8 link105) <|
  allC (lkYes S.pg106 Tryd.func9 link106) <|
  allC (lkYes S.pg115 Tryd.func10 link115) <|
  allC (lkYes S.pg118 Tryd.func11 link118) <|
  allC (lkYes S.pg119 Tryd.func12 link119) <|
  allC (lkYes S.pg120 Tryd.func13 link120) <|
  allC (lkYes S.pg89 Tryd.func14 link89) <|
  allC (lkYes S.pg90 Tryd.func15 link90) <|
  allC (lkYes S.pg91 Tryd.func16 link91) <|
  allC (lkYes S.pg92 Tryd.func17 link92) <|
  allC (lkYes S.pg93 Tryd.func18 link93) <|
  allC (lkYes S.pg94 Tryd.func19 link94) <|
  allC (lkYes S.pg95 Tryd.func20 link95) <|
  allC (lkYes S.pg96 Tryd.func21 link96) <|
  allC (lkYes S.pg97 Tryd.func22 link97) <|
  allC (lkYes S.pg98 Tryd.func23 link98) <|
  allC (lkYes S.pg99 Tryd.func24 link99) <|
  allC (lkYes S.pg101 Tryd.func25 link101) <|
  allC (lkYes S.pg107 Tryd.func26 link107) <|
  allC (lkYes S.pg108 Tryd.func27 link108) <|
  allC (lkYes S.pg109 Tryd.func28 link109) <|
  allC (lkYes S.pg110 Tryd.func29 link110) <|
  allC (lkYes S.pg111 Tryd.func30 link111) <|
  allC (lkYes S.pg112 Tryd.func31 link112) <|
  allC (lkYes S.pg113 Tryd.func32 link113) <|
  allC (lkYes S.pg114 Tryd.func33 link114) <|
  allC (lkYes S.pg116 Tryd.func34 link116) <|
  allC (lkYes S.pg117 Tryd.func35 link117) <|
  allC (lkYes S.pg127 Tryd.func42 link127) <|
  allC (lkYes S.pg130 Tryd.func44 link130) <|
  allC (lkYes S.pg129 Tryd.func45 link129) <|
  allC (lkYes S.pg131 Tryd.func46 link131) <|
  allC (lkYes S.pg132 Tryd.func47 link132) <|
  allC (lkYes S.pg133 Tryd.func48 link133) <|
  allC (lkYes S.pg134 Tryd.func49 link134) <|
  allC (lkYes S.pg135 Tryd.func50 link135) <|
  allC (lkYes S.pg138 Tryd.func53 link138) <|
  allC (lkYes S.pg168 Tryd.func68 link168) <|
  allC (lkNo rfl) <|
  allC (lkNo rfl) <|
  allC (lkNo rfl) <|
  allC (lkNo rfl) <|
  allC (lkNo rfl) <|
  allC (lkNo rfl) <|
  allC (lkNo rfl) <|
  allC (lkNo rfl) <|
  allC (lkNo rfl) <|
  allC (lkNo rfl) <|
  allC (lkNo rfl) <|
  allC (lkNo rfl) <|
  allC (lkNo rfl) <|
  allC (lkNo rfl) <|
  allC (lkNo rfl) <|
  allC (lkNo rfl) <|
  allC (lkNo rfl) <|
  allC (lkNo rfl) <|
  allC (lkNo rfl) <|
  allC (lkNo rfl) <|
  allC (lkNo rfl) <|
  allC (lkNo rfl) <|
  allC (lkNo rfl) <|
  allC (lkNo rfl) <|
  allC (lkNo rfl) <|
  allC (lkNo rfl) <|
  allC (lkNo rfl) <|
  allC (lkNo rfl) <|
  allC (lkNo rfl) <|
  allC (lkNo rfl) <|
  allC (lkNo rfl) <|
  allC (lkNo rfl) <|
  allC (lkNo rfl) <|
  allC (lkNo rfl) <|
  allC (lkNo rfl) <|
  allC (lkNo rfl) <|
  allC (lkNo rfl) <|
  allC (lkNo rfl) <|
  allC (lkNo rfl) <|
  allC (lkNo rfl) <|
  allC (lkNo rfl) <|
  allC (lkNo rfl) <|
  allC (lkNo rfl) <|
  allC (lkNo rfl) <|
  allC (lkNo rfl) <|
  allC (lkNo rfl) <|
  allC (lkNo rfl) <|
  allC (lkNo rfl) <|
  allC (lkNo rfl) <|
  allC (lkNo rfl) <|
  allC (lkNo rfl) <|
  allC (lkNo rfl) <|
  allC (lkNo rfl) <|
  allC (lkNo rfl) <|
  allC (lkNo rfl) <|
  allC (lkNo rfl) <|
  allC (lkNo rfl) <|
  allC (lkNo rfl) <|
  allC (lkNo rfl) <|
  allC (lkNo rfl) <|
  allC (lkNo rfl) <|
  allC (lkNo rfl) <|
  allC (lkNo rfl) <|
  allC (lkNo rfl) <|
  allC (lkNo rfl) <|
  allC (lkNo rfl) <|
  allC (lkNo rfl) <|
  allC (lkNo rfl) <|
  allC (lkNo rfl) <|
  allN

theorem linked : Linked Tryd.prog gam S.pg := fun f fid hf sf hs => linkedAll (f, fid) (lk_mem gtbl f fid hf) sf hs

theorem goodAll : ∀ x ∈ gtbl, ∃ fn, Tryd.prog.funcs[x.2]? = some fn ∧ fn.body.isNone = false ∧ (fn.name == "runtime.NumGoroutine") = false :=
  allC ⟨_, Tryd.func3, by kernel_rfl, by kernel_rfl⟩ <|
  allC ⟨_, Tryd.func4, by kernel_rfl, by kernel_rfl⟩ <|
  allC ⟨_, Tryd.func5, by kernel_rfl, by kernel_rfl⟩ <|
  allC ⟨_, Tryd.func6, by kernel_rfl, by kernel_rfl⟩ <|
  allC ⟨_, Tryd.func7, by kernel_rfl, by kernel_rfl⟩ <|
  allC ⟨_, Tryd.func8, by kernel_rfl, by kernel_rfl⟩ <|
  allC ⟨_, Tryd.func9, by kernel_rfl, by kernel_rfl⟩ <|
  allC ⟨_, Tryd.func10, by kernel_rfl, by kernel_rfl⟩ <|
  allC ⟨_, Tryd.func11, by kernel_rfl, by kernel_rfl⟩ <|
  allC ⟨_, Tryd.func12, by kernel_rfl, by kernel_rfl⟩ <|
  allC ⟨_, Tryd.func13, by kernel_rfl, by kernel_rfl⟩ <|
  allC ⟨_, Tryd.func14, by kernel_rfl, by kernel_rfl⟩ <|
  allC ⟨_, Tryd.func15, by kernel_rfl, by kernel_rfl⟩ <|
  allC ⟨_, Tryd.func16, by kernel_rfl, by kernel_rfl⟩ <|
  allC ⟨_, Tryd.func17, by kernel_rfl, by kernel_rfl⟩ <|
  allC ⟨_, Tryd.func18, by kernel_rfl, by kernel_rfl⟩ <|
  allC ⟨_, Tryd.func19, by kernel_rfl, by kernel_rfl⟩ <|
  allC ⟨_, Tryd.func20, by kernel_rfl, by kernel_rfl⟩ <|
  allC ⟨_, Tryd.func21, by kernel_rfl, by kernel_rfl⟩ <|
  allC ⟨_, Tryd.func22, by kernel_rfl, by kernel_rfl⟩ <|
  allC ⟨_, Tryd.func23, by kernel_rfl, by kernel_rfl⟩ <|
  allC ⟨_, Tryd.func24, by kernel_rfl, by kernel_rfl⟩ <|
  allC ⟨_, Tryd.func25, by kernel_rfl, by kernel_rfl⟩ <|
  allC ⟨_, Tryd.func26, by kernel_rfl, by kernel_rfl⟩ <|
  allC ⟨_, Tryd.func27, by kernel_rfl, by kernel_rfl⟩ <|
  allC ⟨_, Tryd.func28, by kernel_rfl, by kernel_rfl⟩ <|
  allC ⟨_, Tryd.func29, by kernel_rfl, by kernel_rfl⟩ <|
  allC ⟨_, Tryd.func30, by kernel_rfl, by kernel_rfl⟩ <|
  allC ⟨_, Tryd.func31, by kernel_rfl, by kernel_rfl⟩ <|
  allC ⟨_, Tryd.func32, by kernel_rfl, by kernel_rfl⟩ <|
  allC ⟨_, Tryd.func33, by kernel_rfl, by kernel_rfl⟩ <|
  allC ⟨_, Tryd.func34, by kernel_rfl, by kernel_rfl⟩ <|
  allC ⟨_, Tryd.func35, by kernel_rfl, by kernel_rfl⟩ <|
  allC ⟨_, Tryd.func42, by kernel_rfl, by kernel_rfl⟩ <|
  allC ⟨_, Tryd.func44, by kernel_rfl, by kernel_rfl⟩ <|
  allC ⟨_, Tryd.func45, by kernel_rfl, by kernel_rfl⟩ <|
  allC ⟨_, Tryd.func46, by kernel_rfl, by kernel_rfl⟩ <|
  allC ⟨_, Tryd.func47, by kernel_rfl, by kernel_rfl⟩ <|
  allC ⟨_, Tryd.func48, by kernel_rfl, by kernel_rfl⟩ <|
  allC ⟨_, Tryd.func49, by kernel_rfl, by kernel_rfl⟩ <|
  allC ⟨_, Tryd.func50, by kernel_rfl, by kernel_rfl⟩ <|
  allC ⟨_, Tryd.func53, by kernel_rfl, by kernel_rfl⟩ <|
  allC ⟨_, Tryd.func68, by kernel_rfl, by kernel_rfl⟩ <|
  allC ⟨_, Tryd.func36, by kernel_rfl, by kernel_rfl⟩ <|
  allC ⟨_, Tryd.func37, by kernel_rfl, by kernel_rfl⟩ <|
  allC ⟨_, Tryd.func38, by kernel_rfl, by kernel_rfl⟩ <|
  allC ⟨_, Tryd.func39, by kernel_rfl, by kernel_rfl⟩ <|
  allC ⟨_, Tryd.func40, by kernel_rfl, by kernel_rfl⟩ <|
  allC ⟨_, Tryd.func41, by kernel_rfl, by kernel_rfl⟩ <|
  allC ⟨_, Tryd.func43, by kernel_rfl, by kernel_rfl⟩ <|
  allC ⟨_, Tryd.func51, by kernel_rfl, by kernel_rfl⟩ <|
  allC ⟨_, Tryd.func52, by kernel_rfl, by kernel_rfl⟩ <|
  allC ⟨_, Tryd.func54, by kernel_rfl, by kernel_rfl⟩ <|
  allC ⟨_, Tryd.func55, by kernel_rfl, by kernel_rfl⟩ <|
  allC ⟨_, Tryd.func56, by kernel_rfl, by kernel_rfl⟩ <|
  allC ⟨_, Tryd.func57, by kernel_rfl, by kernel_rfl⟩ <|
  allC ⟨_, Tryd.func58, by kernel_rfl, by kernel_rfl⟩ <|
  allC ⟨_, Tryd.func59, by kernel_rfl, by kernel_rfl⟩ <|
  allC ⟨_, Tryd.func60, by kernel_rfl, by kernel_rfl⟩ <|
  allC ⟨_, Tryd.func61, by kernel_rfl, by kernel_rfl⟩ <|
  allC ⟨_, Tryd.func62, by kernel_rfl, by kernel_rfl⟩ <|
  allC ⟨_, Tryd.func63, by kernel_rfl, by kernel_rfl⟩ <|
  allC ⟨_, Tryd.func64, by kernel_rfl, by kernel_rfl⟩ <|
  allC ⟨_, Tryd.func65, by kernel_rfl, by kernel_rfl⟩ <|
  allC ⟨_, Tryd.func66, by kernel_rfl, by kernel_rfl⟩ <|
  allC ⟨_, Tryd.func67, by kernel_rfl, by kernel_rfl⟩ <|
  allC ⟨_, Tryd.func69, by kernel_rfl, by kernel_rfl⟩ <|
  allC ⟨_, Tryd.func70, by kernel_rfl, by kernel_rfl⟩ <|
  allC ⟨_, Tryd.func71, by kernel_rfl, by kernel_rfl⟩ <|
  allC ⟨_, Tryd.func72, by kernel_rfl, by kernel_rfl⟩ <|
  allC ⟨_, Tryd.func73, by kernel_rfl, by kernel_rfl⟩ <|
  allC ⟨_, Tryd.func74, by kernel_rfl, by kernel_rfl⟩ <|
  allC ⟨_, Tryd.func75, by kernel_rfl, by kernel_rfl⟩ <|
  allC ⟨_, Tryd.func76, by kernel_rfl, by kernel_rfl⟩ <|
  allC ⟨_, Tryd.func77, by kernel_rfl, by kernel_rfl⟩ <|
  allC ⟨_, Tryd.func78, by kernel_rfl, by kernel_rfl⟩ <|
  allC ⟨_, Tryd.func79, by kernel_rfl, by kernel_rfl⟩ <|
  allC ⟨_, Tryd.func80, by kernel_rfl, by kernel_rfl⟩ <|
  allC ⟨_, Tryd.func81, by kernel_rfl, by kernel_rfl⟩ <|
  allC ⟨_, Tryd.func82, by kernel_rfl, by kernel_rfl⟩ <|
  allC ⟨_, Tryd.func83, by kernel_rfl, by kernel_rfl⟩ <|
  allC ⟨_, Tryd.func84, by kernel_rfl, by kernel_rfl⟩ <|
  allC ⟨_, Tryd.func85, by kernel_rfl, by kernel_rfl⟩ <|
  allC ⟨_, Tryd.func86, by kernel_rfl, by kernel_rfl⟩ <|
  allC ⟨_, Tryd.func87, by kernel_rfl, by kernel_rfl⟩ <|
  allC ⟨_, Tryd.func88, by kernel_rfl, by kernel_rfl⟩ <|
  allC ⟨_, Tryd.func90, by kernel_rfl, by kernel_rfl⟩ <|
  allC ⟨_, Tryd.func92, by kernel_rfl, by kernel_rfl⟩ <|
  allC ⟨_, Tryd.func93, by kernel_rfl, by kernel_rfl⟩ <|
  allC ⟨_, Tryd.func94, by kernel_rfl, by kernel_rfl⟩ <|
  allC ⟨_, Tryd.func95, by kernel_rfl, by kernel_rfl⟩ <|
  allC ⟨_, Tryd.func96, by kernel_rfl, by kernel_rfl⟩ <|
  allC ⟨_, Tryd.func97, by kernel_rfl, by kernel_rfl⟩ <|
  allC ⟨_, Tryd.func98, by kernel_rfl, by kernel_rfl⟩ <|
  allC ⟨_, Tryd.func99, by kernel_rfl, by kernel_rfl⟩ <|
  allC ⟨_, Tryd.func100, by kernel_rfl, by kernel_rfl⟩ <|
  allC ⟨_, Tryd.func101, by kernel_rfl, by kernel_rfl⟩ <|
  allC ⟨_, Tryd.func102, by kernel_rfl, by kernel_rfl⟩ <|
  allC ⟨_, Tryd.func103, by kernel_rfl, by kernel_rfl⟩ <|
  allC ⟨_, Tryd.func104, by kernel_rfl, by kernel_rfl⟩ <|
  allC ⟨_, Tryd.func105, by kernel_rfl, by kernel_rfl⟩ <|
  allC ⟨_, Tryd.func107, by kernel_rfl, by kernel_rfl⟩ <|
  allC ⟨_, Tryd.func109, by kernel_rfl, by kernel_rfl⟩ <|
  allC ⟨_, Tryd.func110, by kernel_rfl, by kernel_rfl⟩ <|
  allC ⟨_, Tryd.func111, by kernel_rfl, by kernel_rfl⟩ <|
  allC ⟨_, Tryd.func112, by kernel_rfl, by kernel_rfl⟩ <|
  allC ⟨_, Tryd.func113, by kernel_rfl, by kernel_rfl⟩ <|
  allC ⟨_, Tryd.func114, by kernel_rfl, by kernel_rfl⟩ <|
  allC ⟨_, Tryd.func115, by kernel_rfl, by kernel_rfl⟩ <|
  allC ⟨_, Tryd.func117, by kernel_rfl, by kernel_rfl⟩ <|
  allC ⟨_, Tryd.func148, by kernel_rfl, by kernel_rfl⟩ <|
  allC ⟨_, Tryd.func2, by kernel_rfl, by kernel_rfl⟩ <|
  allN

theorem good : Good Tryd.prog gam := fun g fid h => goodAll (g, fid) (lk_mem gtbl g fid h)

theorem mixed : Tryd.prog.follows .mixedOrders = true := by kernel_rfl

end Go.Proofs.YtiegjnklhafloaaDoor
