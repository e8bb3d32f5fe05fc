/-
  Each clean text is that of the model's function: printed by a program, tested by Lean's kernel.
-/
import Derived.Test.YtdbakplieenefaaGreatDoorM2
import Derived.Test.YtdbakplieenefaaGreatDoorS
import Derived.Test.YtdbakplieenefaaGreatDoorChecked
import Derived.KernelRfl
namespace Go.Proofs.YtdbakplieenefaaGreatDoor
open Go Go.Cl

def gtbl : List (Nat × Nat) := [
  (246, 3),
  (254, 4),
  (256, 5),
  (258, 6),
  (247, 7),
  (248, 8),
  (250, 9),
  (249, 10),
  (251, 11),
  (252, 12),
  (253, 13),
  (10, 14),
  (255, 15),
  (257, 16),
  (51, 17),
  (259, 18),
  (52, 19),
  (59, 20),
  (265, 21),
  (99, 22),
  (266, 23),
  (221, 25),
  (60, 26),
  (101, 27),
  (261, 28),
  (242, 29),
  (90, 30),
  (267, 31),
  (63, 32),
  (53, 33),
  (91, 34),
  (268, 35),
  (269, 36),
  (66, 37),
  (270, 38),
  (272, 39),
  (271, 40),
  (67, 41),
  (273, 42),
  (224, 47),
  (226, 48),
  (227, 49),
  (68, 50),
  (260, 51),
  (92, 54),
  (274, 55),
  (275, 56),
  (276, 57),
  (278, 58),
  (277, 59),
  (279, 60),
  (33, 61),
  (32, 62),
  (93, 63),
  (138, 64),
  (280, 65),
  (281, 66),
  (262, 67),
  (244, 68),
  (98, 69),
  (282, 70),
  (283, 71),
  (284, 72),
  (62, 73),
  (97, 74),
  (285, 75),
  (286, 76),
  (287, 77),
  (288, 78),
  (289, 84),
  (290, 85),
  (94, 86),
  (291, 87),
  (222, 88),
  (95, 89),
  (263, 90),
  (264, 91),
  (240, 92),
  (292, 93),
  (241, 94),
  (293, 95),
  (124, 96),
  (219, 97),
  (294, 98),
  (295, 99),
  (297, 100),
  (296, 101),
  (235, 102),
  (298, 103),
  (299, 114),
  (229, 117),
  (228, 118),
  (230, 119),
  (231, 120),
  (232, 121),
  (233, 122),
  (300, 123),
  (143, 124),
  (142, 125),
  (144, 126),
  (146, 127),
  (145, 128),
  (225, 131),
  (55, 132),
  (61, 133),
  (223, 134),
  (301, 135),
  (238, 136),
  (188, 138),
  (236, 149),
  (237, 150),
  (158, 151),
  (234, 154),
  (128, 24),
  (126, 43),
  (167, 44),
  (136, 45),
  (137, 46),
  (121, 52),
  (122, 53),
  (151, 79),
  (152, 80),
  (184, 81),
  (139, 82),
  (140, 83),
  (180, 104),
  (181, 105),
  (182, 106),
  (183, 107),
  (153, 110),
  (154, 111),
  (155, 112),
  (156, 113),
  (123, 115),
  (125, 116),
  (148, 129),
  (147, 130),
  (187, 137),
  (189, 139),
  (190, 140),
  (191, 141),
  (169, 142),
  (159, 143),
  (171, 145),
  (141, 146),
  (149, 147),
  (150, 148),
  (160, 152),
  (161, 153),
  (192, 155),
  (193, 156),
  (172, 157),
  (195, 158),
  (198, 160),
  (199, 161),
  (157, 162),
  (162, 163),
  (163, 164),
  (164, 165),
  (165, 166),
  (166, 167),
  (173, 168),
  (174, 169),
  (200, 171),
  (175, 172),
  (176, 173),
  (177, 174),
  (179, 175),
  (178, 176),
  (201, 177),
  (202, 178),
  (186, 179),
  (216, 210),
  (2, 2)]

def ttbl : List (Nat × Nat) := [(1, 221), (2, 224), (3, 243), (4, 5), (5, 102), (6, 9)]

def gam : Gam where
  F := S.lk gtbl
  T := fun t => (S.lk ttbl t).getD 0
  K := [.pin 0 (.ints .u64 [1, 10, 100, 1000, 10000, 100000, 1000000, 10000000, 100000000, 1000000000, 10000000000, 100000000000, 1000000000000, 10000000000000, 100000000000000, 1000000000000000, 10000000000000000, 100000000000000000, 1000000000000000000, 10000000000000000000]), .pin 1 (.anyInt .i64), .pin 6 (.anyIfc), .pin 7 (.anyIfc)]

theorem link258 : funM Tryz.prog gam S.f258 Tryz.f6 = true := by kernel_rfl
theorem link247 : funM Tryz.prog gam S.f247 Tryz.f7 = true := by kernel_rfl
theorem link250 : funM Tryz.prog gam S.f250 Tryz.f9 = true := by kernel_rfl
theorem link252 : funM Tryz.prog gam S.f252 Tryz.f12 = true := by kernel_rfl
theorem link253 : funM Tryz.prog gam S.f253 Tryz.f13 = true := by kernel_rfl
theorem link10 : funM Tryz.prog gam S.f10 Tryz.f14 = true := by kernel_rfl
theorem link51 : funM Tryz.prog gam S.f51 Tryz.f17 = true := by kernel_rfl
theorem link259 : funM Tryz.prog gam S.f259 Tryz.f18 = true := by kernel_rfl
theorem link52 : funM Tryz.prog gam S.f52 Tryz.f19 = true := by kernel_rfl
theorem link265 : funM Tryz.prog gam S.f265 Tryz.f21 = true := by kernel_rfl
theorem link99 : funM Tryz.prog gam S.f99 Tryz.f22 = true := by kernel_rfl
theorem link266 : funM Tryz.prog gam S.f266 Tryz.f23 = true := by kernel_rfl
theorem link221 : funM Tryz.prog gam S.f221 Tryz.f25 = true := by kernel_rfl
theorem link90 : funM Tryz.prog gam S.f90 Tryz.f30 = true := by kernel_rfl
theorem link267 : funM Tryz.prog gam S.f267 Tryz.f31 = true := by kernel_rfl
theorem link63 : funM Tryz.prog gam S.f63 Tryz.f32 = true := by kernel_rfl
theorem link53 : funM Tryz.prog gam S.f53 Tryz.f33 = true := by kernel_rfl
theorem link66 : funM Tryz.prog gam S.f66 Tryz.f37 = true := by kernel_rfl
theorem link270 : funM Tryz.prog gam S.f270 Tryz.f38 = true := by kernel_rfl
theorem link272 : funM Tryz.prog gam S.f272 Tryz.f39 = true := by kernel_rfl
theorem link271 : funM Tryz.prog gam S.f271 Tryz.f40 = true := by kernel_rfl
theorem link273 : funM Tryz.prog gam S.f273 Tryz.f42 = true := by kernel_rfl
theorem link224 : funM Tryz.prog gam S.f224 Tryz.f47 = true := by kernel_rfl
theorem link226 : funM Tryz.prog gam S.f226 Tryz.f48 = true := by kernel_rfl
theorem link227 : funM Tryz.prog gam S.f227 Tryz.f49 = true := by kernel_rfl
theorem link92 : funM Tryz.prog gam S.f92 Tryz.f54 = true := by kernel_rfl
theorem link274 : funM Tryz.prog gam S.f274 Tryz.f55 = true := by kernel_rfl
theorem link275 : funM Tryz.prog gam S.f275 Tryz.f56 = true := by kernel_rfl
theorem link276 : funM Tryz.prog gam S.f276 Tryz.f57 = true := by kernel_rfl
theorem link278 : funM Tryz.prog gam S.f278 Tryz.f58 = true := by kernel_rfl
theorem link277 : funM Tryz.prog gam S.f277 Tryz.f59 = true := by kernel_rfl
theorem link279 : funM Tryz.prog gam S.f279 Tryz.f60 = true := by kernel_rfl
theorem link33 : funM Tryz.prog gam S.f33 Tryz.f61 = true := by kernel_rfl
theorem link32 : funM Tryz.prog gam S.f32 Tryz.f62 = true := by kernel_rfl
theorem link62 : funM Tryz.prog gam S.f62 Tryz.f73 = true := by kernel_rfl
theorem link97 : funM Tryz.prog gam S.f97 Tryz.f74 = true := by kernel_rfl
theorem link285 : funM Tryz.prog gam S.f285 Tryz.f75 = true := by kernel_rfl
theorem link286 : funM Tryz.prog gam S.f286 Tryz.f76 = true := by kernel_rfl
theorem link287 : funM Tryz.prog gam S.f287 Tryz.f77 = true := by kernel_rfl
theorem link288 : funM Tryz.prog gam S.f288 Tryz.f78 = true := by kernel_rfl
theorem link289 : funM Tryz.prog gam S.f289 Tryz.f84 = true := by kernel_rfl
theorem link290 : funM Tryz.prog gam S.f290 Tryz.f85 = true := by kernel_rfl
theorem link94 : funM Tryz.prog gam S.f94 Tryz.f86 = true := by kernel_rfl
theorem link291 : funM Tryz.prog gam S.f291 Tryz.f87 = true := by kernel_rfl
theorem link222 : funM Tryz.prog gam S.f222 Tryz.f88 = true := by kernel_rfl
theorem link124 : funM Tryz.prog gam S.f124 Tryz.f96 = true := by kernel_rfl
theorem link219 : funM Tryz.prog gam S.f219 Tryz.f97 = true := by kernel_rfl
theorem link294 : funM Tryz.prog gam S.f294 Tryz.f98 = true := by kernel_rfl
theorem link295 : funM Tryz.prog gam S.f295 Tryz.f99 = true := by kernel_rfl
theorem link297 : funM Tryz.prog gam S.f297 Tryz.f100 = true := by kernel_rfl
theorem link296 : funM Tryz.prog gam S.f296 Tryz.f101 = true := by kernel_rfl
theorem link235 : funM Tryz.prog gam S.f235 Tryz.f102 = true := by kernel_rfl
theorem link298 : funM Tryz.prog gam S.f298 Tryz.f103 = true := by kernel_rfl
theorem link299 : funM Tryz.prog gam S.f299 Tryz.f114 = true := by kernel_rfl
theorem link229 : funM Tryz.prog gam S.f229 Tryz.f117 = true := by kernel_rfl
theorem link228 : funM Tryz.prog gam S.f228 Tryz.f118 = true := by kernel_rfl
theorem link230 : funM Tryz.prog gam S.f230 Tryz.f119 = true := by kernel_rfl
theorem link231 : funM Tryz.prog gam S.f231 Tryz.f120 = true := by kernel_rfl
theorem link232 : funM Tryz.prog gam S.f232 Tryz.f121 = true := by kernel_rfl
theorem link233 : funM Tryz.prog gam S.f233 Tryz.f122 = true := by kernel_rfl
theorem link143 : funM Tryz.prog gam S.f143 Tryz.f124 = true := by kernel_rfl
theorem link142 : funM Tryz.prog gam S.f142 Tryz.f125 = true := by kernel_rfl
theorem link144 : funM Tryz.prog gam S.f144 Tryz.f126 = true := by kernel_rfl
theorem link146 : funM Tryz.prog gam S.f146 Tryz.f127 = true := by kernel_rfl
theorem link145 : funM Tryz.prog gam S.f145 Tryz.f128 = true := by kernel_rfl
theorem link225 : funM Tryz.prog gam S.f225 Tryz.f131 = true := by kernel_rfl
theorem link55 : funM Tryz.prog gam S.f55 Tryz.f132 = true := by kernel_rfl
theorem link61 : funM Tryz.prog gam S.f61 Tryz.f133 = true := by kernel_rfl
theorem link223 : funM Tryz.prog gam S.f223 Tryz.f134 = true := by kernel_rfl
theorem link301 : funM Tryz.prog gam S.f301 Tryz.f135 = true := by kernel_rfl
theorem link238 : funM Tryz.prog gam S.f238 Tryz.f136 = true := by kernel_rfl
theorem link236 : funM Tryz.prog gam S.f236 Tryz.f149 = true := by kernel_rfl
theorem link237 : funM Tryz.prog gam S.f237 Tryz.f150 = true := by kernel_rfl
theorem link158 : funM Tryz.prog gam S.f158 Tryz.f151 = true := by kernel_rfl
theorem link234 : funM Tryz.prog gam S.f234 Tryz.f154 = true := by kernel_rfl

theorem lk_mem {α : Type} : ∀ (l : List (Nat × α)) (i : Nat) (v : α), S.lk l i = some v → (i, v) ∈ l
  | [], i, v, h => by cases h
  | (k, u) :: r, i, v, h => by
    unfold S.lk at h
    cases hb : Nat.beq i k with
    | true =>
      rw [hb] at h
      have := Nat.eq_of_beq_eq_true hb
      subst this
      cases h
      exact List.mem_cons_self
    | false => rw [hb] at h; exact List.mem_cons_of_mem _ (lk_mem r i v h)

theorem lkYes {g fid : Nat} {sf : SFunc} {fn : Func} (h1 : S.pg g = some sf) (h2 : Tryz.prog.funcs[fid]? = some fn) (h3 : funM Tryz.prog gam sf fn = true) : ∀ sf', S.pg g = some sf' → ∃ fn, Tryz.prog.funcs[fid]? = some fn ∧ funM Tryz.prog gam sf' fn = true :=
  fun sf' h => by rw [h1] at h; cases h; exact ⟨fn, h2, h3⟩
theorem lkNo {g fid : Nat} (h1 : S.pg g = none) : ∀ sf', S.pg g = some sf' → ∃ fn, Tryz.prog.funcs[fid]? = some fn ∧ funM Tryz.prog gam sf' fn = true :=
  fun sf' h => by rw [h1] at h; cases h
theorem allN {p : Nat × Nat → Prop} : ∀ x ∈ ([] : List (Nat × Nat)), p x := fun _ h => by cases h
theorem allC {p : Nat × Nat → Prop} {a : Nat × Nat} {l : List (Nat × Nat)} (h : p a) (k : ∀ x ∈ l, p x) : ∀ x ∈ a :: l, p x := fun x hx => by
  rcases List.mem_cons.1 hx with rfl | hx
  · exact h
  · exact k x hx

set_option maxRecDepth 100000 in
theorem linkedAll : ∀ x ∈ gtbl, ∀ sf', S.pg x.1 = some sf' → ∃ fn, Tryz.prog.funcs[x.2]? = some fn ∧ funM Tryz.prog gam sf' fn = true :=
  allC (lkNo rfl) <|
  allC (lkNo rfl) <|
  allC (lkNo rfl) <|
  allC (lkYes S.pg258 Tryz.func6 link258) <|
  allC (lkYes S.pg247 Tryz.func7 link247) <|
  allC (lkNo rfl) <|
  allC (lkYes S.pg250 Tryz.func9 link250) <|
  allC (lkNo rfl) <|
  allC (lkNo rfl) <|
  allC (lkYes S.pg252 Tryz.func12 link252) <|
  allC (lkYes S.pg253 Tryz.func13 link253) <|
  allC (lkYes S.pg10 Tryz.func14 link10) <|
  allC (lkNo rfl) <|
  allC (lkNo rfl) <|
  allC (lkYes S.pg51 Tryz.func17 link51) <|
  allC (lkYes S.pg259 Tryz.func18 link259) <|
  allC (lkYes S.pg52 Tryz.func19 link52) <|
  allC (lkNo rfl) <|
  allC (lkYes S.pg265 Tryz.func21 link265) <|
  allC (lkYes S.pg99 Tryz.func22 link99) <|
  allC (lkYes S.pg266 Tryz.func23 link266) <|
  allC (lkYes S.pg221 Tryz.func25 link221) <|
  allC (lkNo rfl) <|
  allC (lkNo rfl) <|
  allC (lkNo rfl) <|
  allC (lkNo rfl) <|
  allC (lkYes S.pg90 Tryz.func30 link90) <|
  allC (lkYes S.pg267 Tryz.func31 link267) <|
  allC (lkYes S.pg63 Tryz.func32 link63) <|
  allC (lkYes S.pg53 Tryz.func33 link53) <|
  allC (lkNo rfl) <|
  allC (lkNo rfl) <|
  allC (lkNo rfl) <|
  allC (lkYes S.pg66 Tryz.func37 link66) <|
  allC (lkYes S.pg270 Tryz.func38 link270) <|
  allC (lkYes S.pg272 Tryz.func39 link272) <|
  allC (lkYes S.pg271 Tryz.func40 link271) <|
  allC (lkNo rfl) <|
  allC (lkYes S.pg273 Tryz.func42 link273) <|
  allC (lkYes S.pg224 Tryz.func47 link224) <|
  allC (lkYes S.pg226 Tryz.func48 link226) <|
  allC (lkYes S.pg227 Tryz.func49 link227) <|
  allC (lkNo rfl) <|
  allC (lkNo rfl) <|
  allC (lkYes S.pg92 Tryz.func54 link92) <|
  allC (lkYes S.pg274 Tryz.func55 link274) <|
  allC (lkYes S.pg275 Tryz.func56 link275) <|
  allC (lkYes S.pg276 Tryz.func57 link276) <|
  allC (lkYes S.pg278 Tryz.func58 link278) <|
  allC (lkYes S.pg277 Tryz.func59 link277) <|
  allC (lkYes S.pg279 Tryz.func60 link279) <|
  allC (lkYes S.pg33 Tryz.func61 link33) <|
  allC (lkYes S.pg32 Tryz.func62 link32) <|
  allC (lkNo rfl) <|
  allC (lkNo rfl) <|
  allC (lkNo rfl) <|
  allC (lkNo rfl) <|
  allC (lkNo rfl) <|
  allC (lkNo rfl) <|
  allC (lkNo rfl) <|
  allC (lkNo rfl) <|
  allC (lkNo rfl) <|
  allC (lkNo rfl) <|
  allC (lkYes S.pg62 Tryz.func73 link62) <|
  allC (lkYes S.pg97 Tryz.func74 link97) <|
  allC (lkYes S.pg285 Tryz.func75 link285) <|
  allC (lkYes S.pg286 Tryz.func76 link286) <|
  allC (lkYes S.pg287 Tryz.func77 link287) <|
  allC (lkYes S.pg288 Tryz.func78 link288) <|
  allC (lkYes S.pg289 Tryz.func84 link289) <|
  allC (lkYes S.pg290 Tryz.func85 link290) <|
  allC (lkYes S.pg94 Tryz.func86 link94) <|
  allC (lkYes S.pg291 Tryz.func87 link291) <|
  allC (lkYes S.pg222 Tryz.func88 link222) <|
  allC (lkNo rfl) <|
  allC (lkNo rfl) <|
  allC (lkNo rfl) <|
  allC (lkNo rfl) <|
  allC (lkNo rfl) <|
  allC (lkNo rfl) <|
  allC (lkNo rfl) <|
  allC (lkYes S.pg124 Tryz.func96 link124) <|
  allC (lkYes S.pg219 Tryz.func97 link219) <|
  allC (lkYes S.pg294 Tryz.func98 link294) <|
  allC (lkYes S.pg295 Tryz.func99 link295) <|
  allC (lkYes S.pg297 Tryz.func100 link297) <|
  allC (lkYes S.pg296 Tryz.func101 link296) <|
  allC (lkYes S.pg235 Tryz.func102 link235) <|
  allC (lkYes S.pg298 Tryz.func103 link298) <|
  allC (lkYes S.pg299 Tryz.func114 link299) <|
  allC (lkYes S.pg229 Tryz.func117 link229) <|
  allC (lkYes S.pg228 Tryz.func118 link228) <|
  allC (lkYes S.pg230 Tryz.func119 link230) <|
  allC (lkYes S.pg231 Tryz.func120 link231) <|
  allC (lkYes S.pg232 Tryz.func121 link232) <|
  allC (lkYes S.pg233 Tryz.func122 link233) <|
  allC (lkNo rfl) <|
  allC (lkYes S.pg143 Tryz.func124 link143) <|
  allC (lkYes S.pg142 Tryz.func125 link142) <|
  allC (lkYes S.pg144 Tryz.func126 link144) <|
  allC (lkYes S.pg146 Tryz.func127 link146) <|
  allC (lkYes S.pg145 Tryz.func128 link145) <|
  allC (lkYes S.pg225 Tryz.func131 link225) <|
  allC (lkYes S.pg55 Tryz.func132 link55) <|
  allC (lkYes S.pg61 Tryz.func133 link61) <|
  allC (lkYes S.pg223 Tryz.func134 link223) <|
  allC (lkYes S.pg301 Tryz.func135 link301) <|
  allC (lkYes S.pg238 Tryz.func136 link238) <|
  allC (lkNo rfl) <|
  allC (lkYes S.pg236 Tryz.func149 link236) <|
  allC (lkYes S.pg237 Tryz.func150 link237) <|
  allC (lkYes S.pg158 Tryz.func151 link158) <|
  allC (lkYes S.pg234 Tryz.func154 link234) <|
  allC (lkNo rfl) <|
  allC (lkNo rfl) <|
  allC (lkNo rfl) <|
  allC (lkNo rfl) <|
  allC (lkNo rfl) <|
  allC (lkNo rfl) <|
  allC (lkNo rfl) <|
  allC (lkNo rfl) <|
  allC (lkNo rfl) <|
  allC (lkNo rfl) <|
  allC (lkNo rfl) <|
  allC (lkNo rfl) <|
  allC (lkNo rfl) <|
  allC (lkNo rfl) <|
  allC (lkNo rfl) <|
  allC (lkNo rfl) <|
  allC (lkNo rfl) <|
  allC (lkNo rfl) <|
  allC (lkNo rfl) <|
  allC (lkNo rfl) <|
  allC (lkNo rfl) <|
  allC (lkNo rfl) <|
  allC (lkNo rfl) <|
  allC (lkNo rfl) <|
  allC (lkNo rfl) <|
  allC (lkNo rfl) <|
  allC (lkNo rfl) <|
  allC (lkNo rfl) <|
  allC (lkNo rfl) <|
  allC (lkNo rfl) <|
  allC (lkNo rfl) <|
  allC (lkNo rfl) <|
  allC (lkNo rfl) <|
  allC (lkNo rfl) <|
  allC (lkNo rfl) <|
  allC (lkNo rfl) <|
  allC (lkNo rfl) <|
  allC (lkNo rfl) <|
  allC (lkNo rfl) <|
  allC (lkNo rfl) <|
  allC (lkNo rfl) <|
  allC (lkNo rfl) <|
  allC (lkNo rfl) <|
  allC (lkNo rfl) <|
  allC (lkNo rfl) <|
  allC (lkNo rfl) <|
  allC (lkNo rfl) <|
  allC (lkNo rfl) <|
  allC (lkNo rfl) <|
  allC (lkNo rfl) <|
  allC (lkNo rfl) <|
  allC (lkNo rfl) <|
  allC (lkNo rfl) <|
  allC (lkNo rfl) <|
  allC (lkNo rfl) <|
  allC (lkNo rfl) <|
  allC (lkNo rfl) <|
  allC (lkNo rfl) <|
  allC (lkNo rfl) <|
  allC (lkNo rfl) <|
  allC (lkNo rfl) <|
  allN

theorem linked : Linked Tryz.prog gam S.pg := fun f fid hf sf hs => linkedAll (f, fid) (lk_mem gtbl f fid hf) sf hs

set_option maxRecDepth 100000 in
theorem goodAll : ∀ x ∈ gtbl, ∃ fn, Tryz.prog.funcs[x.2]? = some fn ∧ fn.body.isNone = false ∧ (fn.name == "runtime.NumGoroutine") = false :=
  allC ⟨_, Tryz.func3, by kernel_rfl, by kernel_rfl⟩ <|
  allC ⟨_, Tryz.func4, by kernel_rfl, by kernel_rfl⟩ <|
  allC ⟨_, Tryz.func5, by kernel_rfl, by kernel_rfl⟩ <|
  allC ⟨_, Tryz.func6, by kernel_rfl, by kernel_rfl⟩ <|
  allC ⟨_, Tryz.func7, by kernel_rfl, by kernel_rfl⟩ <|
  allC ⟨_, Tryz.func8, by kernel_rfl, by kernel_rfl⟩ <|
  allC ⟨_, Tryz.func9, by kernel_rfl, by kernel_rfl⟩ <|
  allC ⟨_, Tryz.func10, by kernel_rfl, by kernel_rfl⟩ <|
  allC ⟨_, Tryz.func11, by kernel_rfl, by kernel_rfl⟩ <|
  allC ⟨_, Tryz.func12, by kernel_rfl, by kernel_rfl⟩ <|
  allC ⟨_, Tryz.func13, by kernel_rfl, by kernel_rfl⟩ <|
  allC ⟨_, Tryz.func14, by kernel_rfl, by kernel_rfl⟩ <|
  allC ⟨_, Tryz.func15, by kernel_rfl, by kernel_rfl⟩ <|
  allC ⟨_, Tryz.func16, by kernel_rfl, by kernel_rfl⟩ <|
  allC ⟨_, Tryz.func17, by kernel_rfl, by kernel_rfl⟩ <|
  allC ⟨_, Tryz.func18, by kernel_rfl, by kernel_rfl⟩ <|
  allC ⟨_, Tryz.func19, by kernel_rfl, by kernel_rfl⟩ <|
  allC ⟨_, Tryz.func20, by kernel_rfl, by kernel_rfl⟩ <|
  allC ⟨_, Tryz.func21, by kernel_rfl, by kernel_rfl⟩ <|
  allC ⟨_, Tryz.func22, by kernel_rfl, by kernel_rfl⟩ <|
  allC ⟨_, Tryz.func23, by kernel_rfl, by kernel_rfl⟩ <|
  allC ⟨_, Tryz.func25, by kernel_rfl, by kernel_rfl⟩ <|
  allC ⟨_, Tryz.func26, by kernel_rfl, by kernel_rfl⟩ <|
  allC ⟨_, Tryz.func27, by kernel_rfl, by kernel_rfl⟩ <|
  allC ⟨_, Tryz.func28, by kernel_rfl, by kernel_rfl⟩ <|
  allC ⟨_, Tryz.func29, by kernel_rfl, by kernel_rfl⟩ <|
  allC ⟨_, Tryz.func30, by kernel_rfl, by kernel_rfl⟩ <|
  allC ⟨_, Tryz.func31, by kernel_rfl, by kernel_rfl⟩ <|
  allC ⟨_, Tryz.func32, by kernel_rfl, by kernel_rfl⟩ <|
  allC ⟨_, Tryz.func33, by kernel_rfl, by kernel_rfl⟩ <|
  allC ⟨_, Tryz.func34, by kernel_rfl, by kernel_rfl⟩ <|
  allC ⟨_, Tryz.func35, by kernel_rfl, by kernel_rfl⟩ <|
  allC ⟨_, Tryz.func36, by kernel_rfl, by kernel_rfl⟩ <|
  allC ⟨_, Tryz.func37, by kernel_rfl, by kernel_rfl⟩ <|
  allC ⟨_, Tryz.func38, by kernel_rfl, by kernel_rfl⟩ <|
  allC ⟨_, Tryz.func39, by kernel_rfl, by kernel_rfl⟩ <|
  allC ⟨_, Tryz.func40, by kernel_rfl, by kernel_rfl⟩ <|
  allC ⟨_, Tryz.func41, by kernel_rfl, by kernel_rfl⟩ <|
  allC ⟨_, Tryz.func42, by kernel_rfl, by kernel_rfl⟩ <|
  allC ⟨_, Tryz.func47, by kernel_rfl, by kernel_rfl⟩ <|
  allC ⟨_, Tryz.func48, by kernel_rfl, by kernel_rfl⟩ <|
  allC ⟨_, Tryz.func49, by kernel_rfl, by kernel_rfl⟩ <|
  allC ⟨_, Tryz.func50, by kernel_rfl, by kernel_rfl⟩ <|
  allC ⟨_, Tryz.func51, by kernel_rfl, by kernel_rfl⟩ <|
  allC ⟨_, Tryz.func54, by kernel_rfl, by kernel_rfl⟩ <|
  allC ⟨_, Tryz.func55, by kernel_rfl, by kernel_rfl⟩ <|
  allC ⟨_, Tryz.func56, by kernel_rfl, by kernel_rfl⟩ <|
  allC ⟨_, Tryz.func57, by kernel_rfl, by kernel_rfl⟩ <|
  allC ⟨_, Tryz.func58, by kernel_rfl, by kernel_rfl⟩ <|
  allC ⟨_, Tryz.func59, by kernel_rfl, by kernel_rfl⟩ <|
  allC ⟨_, Tryz.func60, by kernel_rfl, by kernel_rfl⟩ <|
  allC ⟨_, Tryz.func61, by kernel_rfl, by kernel_rfl⟩ <|
  allC ⟨_, Tryz.func62, by kernel_rfl, by kernel_rfl⟩ <|
  allC ⟨_, Tryz.func63, by kernel_rfl, by kernel_rfl⟩ <|
  allC ⟨_, Tryz.func64, by kernel_rfl, by kernel_rfl⟩ <|
  allC ⟨_, Tryz.func65, by kernel_rfl, by kernel_rfl⟩ <|
  allC ⟨_, Tryz.func66, by kernel_rfl, by kernel_rfl⟩ <|
  allC ⟨_, Tryz.func67, by kernel_rfl, by kernel_rfl⟩ <|
  allC ⟨_, Tryz.func68, by kernel_rfl, by kernel_rfl⟩ <|
  allC ⟨_, Tryz.func69, by kernel_rfl, by kernel_rfl⟩ <|
  allC ⟨_, Tryz.func70, by kernel_rfl, by kernel_rfl⟩ <|
  allC ⟨_, Tryz.func71, by kernel_rfl, by kernel_rfl⟩ <|
  allC ⟨_, Tryz.func72, by kernel_rfl, by kernel_rfl⟩ <|
  allC ⟨_, Tryz.func73, by kernel_rfl, by kernel_rfl⟩ <|
  allC ⟨_, Tryz.func74, by kernel_rfl, by kernel_rfl⟩ <|
  allC ⟨_, Tryz.func75, by kernel_rfl, by kernel_rfl⟩ <|
  allC ⟨_, Tryz.func76, by kernel_rfl, by kernel_rfl⟩ <|
  allC ⟨_, Tryz.func77, by kernel_rfl, by kernel_rfl⟩ <|
  allC ⟨_, Tryz.func78, by kernel_rfl, by kernel_rfl⟩ <|
  allC ⟨_, Tryz.func84, by kernel_rfl, by kernel_rfl⟩ <|
  allC ⟨_, Tryz.func85, by kernel_rfl, by kernel_rfl⟩ <|
  allC ⟨_, Tryz.func86, by kernel_rfl, by kernel_rfl⟩ <|
  allC ⟨_, Tryz.func87, by kernel_rfl, by kernel_rfl⟩ <|
  allC ⟨_, Tryz.func88, by kernel_rfl, by kernel_rfl⟩ <|
  allC ⟨_, Tryz.func89, by kernel_rfl, by kernel_rfl⟩ <|
  allC ⟨_, Tryz.func90, by kernel_rfl, by kernel_rfl⟩ <|
  allC ⟨_, Tryz.func91, by kernel_rfl, by kernel_rfl⟩ <|
  allC ⟨_, Tryz.func92, by kernel_rfl, by kernel_rfl⟩ <|
  allC ⟨_, Tryz.func93, by kernel_rfl, by kernel_rfl⟩ <|
  allC ⟨_, Tryz.func94, by kernel_rfl, by kernel_rfl⟩ <|
  allC ⟨_, Tryz.func95, by kernel_rfl, by kernel_rfl⟩ <|
  allC ⟨_, Tryz.func96, by kernel_rfl, by kernel_rfl⟩ <|
  allC ⟨_, Tryz.func97, by kernel_rfl, by kernel_rfl⟩ <|
  allC ⟨_, Tryz.func98, by kernel_rfl, by kernel_rfl⟩ <|
  allC ⟨_, Tryz.func99, by kernel_rfl, by kernel_rfl⟩ <|
  allC ⟨_, Tryz.func100, by kernel_rfl, by kernel_rfl⟩ <|
  allC ⟨_, Tryz.func101, by kernel_rfl, by kernel_rfl⟩ <|
  allC ⟨_, Tryz.func102, by kernel_rfl, by kernel_rfl⟩ <|
  allC ⟨_, Tryz.func103, by kernel_rfl, by kernel_rfl⟩ <|
  allC ⟨_, Tryz.func114, by kernel_rfl, by kernel_rfl⟩ <|
  allC ⟨_, Tryz.func117, by kernel_rfl, by kernel_rfl⟩ <|
  allC ⟨_, Tryz.func118, by kernel_rfl, by kernel_rfl⟩ <|
  allC ⟨_, Tryz.func119, by kernel_rfl, by kernel_rfl⟩ <|
  allC ⟨_, Tryz.func120, by kernel_rfl, by kernel_rfl⟩ <|
  allC ⟨_, Tryz.func121, by kernel_rfl, by kernel_rfl⟩ <|
  allC ⟨_, Tryz.func122, by kernel_rfl, by kernel_rfl⟩ <|
  allC ⟨_, Tryz.func123, by kernel_rfl, by kernel_rfl⟩ <|
  allC ⟨_, Tryz.func124, by kernel_rfl, by kernel_rfl⟩ <|
  allC ⟨_, Tryz.func125, by kernel_rfl, by kernel_rfl⟩ <|
  allC ⟨_, Tryz.func126, by kernel_rfl, by kernel_rfl⟩ <|
  allC ⟨_, Tryz.func127, by kernel_rfl, by kernel_rfl⟩ <|
  allC ⟨_, Tryz.func128, by kernel_rfl, by kernel_rfl⟩ <|
  allC ⟨_, Tryz.func131, by kernel_rfl, by kernel_rfl⟩ <|
  allC ⟨_, Tryz.func132, by kernel_rfl, by kernel_rfl⟩ <|
  allC ⟨_, Tryz.func133, by kernel_rfl, by kernel_rfl⟩ <|
  allC ⟨_, Tryz.func134, by kernel_rfl, by kernel_rfl⟩ <|
  allC ⟨_, Tryz.func135, by kernel_rfl, by kernel_rfl⟩ <|
  allC ⟨_, Tryz.func136, by kernel_rfl, by kernel_rfl⟩ <|
  allC ⟨_, Tryz.func138, by kernel_rfl, by kernel_rfl⟩ <|
  allC ⟨_, Tryz.func149, by kernel_rfl, by kernel_rfl⟩ <|
  allC ⟨_, Tryz.func150, by kernel_rfl, by kernel_rfl⟩ <|
  allC ⟨_, Tryz.func151, by kernel_rfl, by kernel_rfl⟩ <|
  allC ⟨_, Tryz.func154, by kernel_rfl, by kernel_rfl⟩ <|
  allC ⟨_, Tryz.func24, by kernel_rfl, by kernel_rfl⟩ <|
  allC ⟨_, Tryz.func43, by kernel_rfl, by kernel_rfl⟩ <|
  allC ⟨_, Tryz.func44, by kernel_rfl, by kernel_rfl⟩ <|
  allC ⟨_, Tryz.func45, by kernel_rfl, by kernel_rfl⟩ <|
  allC ⟨_, Tryz.func46, by kernel_rfl, by kernel_rfl⟩ <|
  allC ⟨_, Tryz.func52, by kernel_rfl, by kernel_rfl⟩ <|
  allC ⟨_, Tryz.func53, by kernel_rfl, by kernel_rfl⟩ <|
  allC ⟨_, Tryz.func79, by kernel_rfl, by kernel_rfl⟩ <|
  allC ⟨_, Tryz.func80, by kernel_rfl, by kernel_rfl⟩ <|
  allC ⟨_, Tryz.func81, by kernel_rfl, by kernel_rfl⟩ <|
  allC ⟨_, Tryz.func82, by kernel_rfl, by kernel_rfl⟩ <|
  allC ⟨_, Tryz.func83, by kernel_rfl, by kernel_rfl⟩ <|
  allC ⟨_, Tryz.func104, by kernel_rfl, by kernel_rfl⟩ <|
  allC ⟨_, Tryz.func105, by kernel_rfl, by kernel_rfl⟩ <|
  allC ⟨_, Tryz.func106, by kernel_rfl, by kernel_rfl⟩ <|
  allC ⟨_, Tryz.func107, by kernel_rfl, by kernel_rfl⟩ <|
  allC ⟨_, Tryz.func110, by kernel_rfl, by kernel_rfl⟩ <|
  allC ⟨_, Tryz.func111, by kernel_rfl, by kernel_rfl⟩ <|
  allC ⟨_, Tryz.func112, by kernel_rfl, by kernel_rfl⟩ <|
  allC ⟨_, Tryz.func113, by kernel_rfl, by kernel_rfl⟩ <|
  allC ⟨_, Tryz.func115, by kernel_rfl, by kernel_rfl⟩ <|
  allC ⟨_, Tryz.func116, by kernel_rfl, by kernel_rfl⟩ <|
  allC ⟨_, Tryz.func129, by kernel_rfl, by kernel_rfl⟩ <|
  allC ⟨_, Tryz.func130, by kernel_rfl, by kernel_rfl⟩ <|
  allC ⟨_, Tryz.func137, by kernel_rfl, by kernel_rfl⟩ <|
  allC ⟨_, Tryz.func139, by kernel_rfl, by kernel_rfl⟩ <|
  allC ⟨_, Tryz.func140, by kernel_rfl, by kernel_rfl⟩ <|
  allC ⟨_, Tryz.func141, by kernel_rfl, by kernel_rfl⟩ <|
  allC ⟨_, Tryz.func142, by kernel_rfl, by kernel_rfl⟩ <|
  allC ⟨_, Tryz.func143, by kernel_rfl, by kernel_rfl⟩ <|
  allC ⟨_, Tryz.func145, by kernel_rfl, by kernel_rfl⟩ <|
  allC ⟨_, Tryz.func146, by kernel_rfl, by kernel_rfl⟩ <|
  allC ⟨_, Tryz.func147, by kernel_rfl, by kernel_rfl⟩ <|
  allC ⟨_, Tryz.func148, by kernel_rfl, by kernel_rfl⟩ <|
  allC ⟨_, Tryz.func152, by kernel_rfl, by kernel_rfl⟩ <|
  allC ⟨_, Tryz.func153, by kernel_rfl, by kernel_rfl⟩ <|
  allC ⟨_, Tryz.func155, by kernel_rfl, by kernel_rfl⟩ <|
  allC ⟨_, Tryz.func156, by kernel_rfl, by kernel_rfl⟩ <|
  allC ⟨_, Tryz.func157, by kernel_rfl, by kernel_rfl⟩ <|
  allC ⟨_, Tryz.func158, by kernel_rfl, by kernel_rfl⟩ <|
  allC ⟨_, Tryz.func160, by kernel_rfl, by kernel_rfl⟩ <|
  allC ⟨_, Tryz.func161, by kernel_rfl, by kernel_rfl⟩ <|
  allC ⟨_, Tryz.func162, by kernel_rfl, by kernel_rfl⟩ <|
  allC ⟨_, Tryz.func163, by kernel_rfl, by kernel_rfl⟩ <|
  allC ⟨_, Tryz.func164, by kernel_rfl, by kernel_rfl⟩ <|
  allC ⟨_, Tryz.func165, by kernel_rfl, by kernel_rfl⟩ <|
  allC ⟨_, Tryz.func166, by kernel_rfl, by kernel_rfl⟩ <|
  allC ⟨_, Tryz.func167, by kernel_rfl, by kernel_rfl⟩ <|
  allC ⟨_, Tryz.func168, by kernel_rfl, by kernel_rfl⟩ <|
  allC ⟨_, Tryz.func169, by kernel_rfl, by kernel_rfl⟩ <|
  allC ⟨_, Tryz.func171, by kernel_rfl, by kernel_rfl⟩ <|
  allC ⟨_, Tryz.func172, by kernel_rfl, by kernel_rfl⟩ <|
  allC ⟨_, Tryz.func173, by kernel_rfl, by kernel_rfl⟩ <|
  allC ⟨_, Tryz.func174, by kernel_rfl, by kernel_rfl⟩ <|
  allC ⟨_, Tryz.func175, by kernel_rfl, by kernel_rfl⟩ <|
  allC ⟨_, Tryz.func176, by kernel_rfl, by kernel_rfl⟩ <|
  allC ⟨_, Tryz.func177, by kernel_rfl, by kernel_rfl⟩ <|
  allC ⟨_, Tryz.func178, by kernel_rfl, by kernel_rfl⟩ <|
  allC ⟨_, Tryz.func179, by kernel_rfl, by kernel_rfl⟩ <|
  allC ⟨_, Tryz.func210, by kernel_rfl, by kernel_rfl⟩ <|
  allC ⟨_, Tryz.func2, by kernel_rfl, by kernel_rfl⟩ <|
  allN

theorem good : Good Tryz.prog gam := fun g fid h => goodAll (g, fid) (lk_mem gtbl g fid h)

theorem mixed : Tryz.prog.follows .mixedOrders = true := by kernel_rfl

end Go.Proofs.YtdbakplieenefaaGreatDoor
