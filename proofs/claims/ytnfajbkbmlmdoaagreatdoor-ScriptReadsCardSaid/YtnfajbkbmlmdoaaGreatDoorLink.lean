/-
  Each clean text is that of the model's function: printed by a program, tested by Lean's kernel.
-/
import Derived.Test.YtnfajbkbmlmdoaaGreatDoorM2
import Derived.Test.YtnfajbkbmlmdoaaGreatDoorS
import Derived.Test.YtnfajbkbmlmdoaaGreatDoorChecked
import Derived.KernelRfl
namespace Go.Proofs.YtnfajbkbmlmdoaaGreatDoor
open Go Go.Cl

def gtbl : List (Nat × Nat) := [
  (456, 3),
  (466, 4),
  (468, 5),
  (457, 6),
  (458, 7),
  (447, 8),
  (459, 9),
  (460, 10),
  (461, 11),
  (462, 12),
  (463, 13),
  (464, 14),
  (465, 15),
  (467, 16),
  (436, 17),
  (52, 18),
  (114, 19),
  (452, 20),
  (451, 21),
  (470, 22),
  (469, 23),
  (61, 24),
  (64, 25),
  (99, 26),
  (90, 30),
  (471, 31),
  (101, 32),
  (91, 33),
  (93, 34),
  (138, 35),
  (265, 36),
  (441, 37),
  (442, 38),
  (111, 39),
  (455, 40),
  (92, 46),
  (94, 47),
  (95, 48),
  (273, 49),
  (305, 50),
  (444, 51),
  (306, 52),
  (449, 53),
  (309, 54),
  (312, 55),
  (310, 56),
  (450, 57),
  (307, 58),
  (316, 59),
  (127, 60),
  (124, 67),
  (97, 69),
  (285, 70),
  (286, 71),
  (287, 72),
  (288, 73),
  (317, 74),
  (318, 75),
  (319, 76),
  (5, 77),
  (320, 78),
  (321, 79),
  (322, 80),
  (323, 81),
  (6, 82),
  (48, 83),
  (324, 84),
  (454, 85),
  (345, 86),
  (308, 87),
  (333, 88),
  (55, 89),
  (39, 90),
  (30, 92),
  (325, 93),
  (326, 94),
  (327, 95),
  (328, 96),
  (329, 97),
  (330, 98),
  (143, 109),
  (142, 110),
  (144, 111),
  (146, 112),
  (145, 113),
  (219, 118),
  (294, 119),
  (295, 120),
  (297, 121),
  (296, 122),
  (235, 123),
  (298, 124),
  (335, 125),
  (336, 126),
  (338, 127),
  (337, 128),
  (358, 129),
  (340, 130),
  (339, 131),
  (341, 132),
  (65, 133),
  (389, 134),
  (366, 135),
  (365, 136),
  (367, 137),
  (17, 138),
  (331, 139),
  (377, 140),
  (36, 141),
  (342, 142),
  (343, 143),
  (43, 144),
  (41, 145),
  (45, 146),
  (344, 147),
  (346, 148),
  (347, 149),
  (348, 150),
  (349, 151),
  (350, 152),
  (351, 153),
  (352, 154),
  (353, 155),
  (188, 157),
  (158, 166),
  (224, 174),
  (225, 175),
  (223, 176),
  (301, 177),
  (238, 178),
  (357, 179),
  (359, 180),
  (360, 181),
  (361, 182),
  (362, 183),
  (69, 184),
  (388, 185),
  (375, 186),
  (56, 187),
  (354, 188),
  (315, 189),
  (355, 190),
  (378, 191),
  (363, 192),
  (356, 193),
  (364, 194),
  (368, 195),
  (369, 196),
  (370, 197),
  (371, 198),
  (372, 199),
  (373, 200),
  (374, 201),
  (234, 217),
  (379, 218),
  (380, 219),
  (382, 220),
  (381, 221),
  (410, 222),
  (397, 223),
  (396, 224),
  (384, 225),
  (383, 226),
  (387, 227),
  (386, 228),
  (385, 229),
  (390, 230),
  (391, 231),
  (392, 232),
  (394, 234),
  (414, 237),
  (398, 243),
  (399, 244),
  (400, 245),
  (401, 246),
  (402, 247),
  (403, 248),
  (404, 249),
  (405, 250),
  (406, 251),
  (407, 252),
  (422, 253),
  (424, 254),
  (423, 255),
  (408, 256),
  (409, 257),
  (411, 258),
  (412, 259),
  (415, 260),
  (416, 261),
  (417, 262),
  (418, 263),
  (419, 264),
  (420, 265),
  (421, 266),
  (425, 267),
  (426, 268),
  (136, 27),
  (128, 28),
  (137, 29),
  (126, 41),
  (152, 42),
  (167, 43),
  (121, 44),
  (122, 45),
  (151, 61),
  (184, 63),
  (139, 64),
  (140, 65),
  (123, 66),
  (125, 68),
  (332, 91),
  (180, 99),
  (181, 100),
  (182, 101),
  (183, 102),
  (153, 104),
  (154, 105),
  (155, 106),
  (156, 107),
  (141, 108),
  (148, 114),
  (147, 115),
  (149, 116),
  (150, 117),
  (187, 156),
  (189, 158),
  (190, 159),
  (191, 160),
  (169, 161),
  (159, 162),
  (171, 164),
  (157, 165),
  (160, 167),
  (161, 168),
  (162, 169),
  (163, 170),
  (164, 171),
  (165, 172),
  (166, 173),
  (192, 203),
  (193, 204),
  (172, 205),
  (195, 206),
  (198, 208),
  (199, 209),
  (173, 210),
  (174, 211),
  (175, 212),
  (176, 213),
  (177, 214),
  (179, 215),
  (178, 216),
  (393, 233),
  (395, 235),
  (200, 239),
  (201, 240),
  (202, 241),
  (186, 242),
  (216, 303),
  (2, 2),
  (376, 202)]

def ttbl : List (Nat × Nat) := [(0, 205), (1, 262), (2, 265), (3, 331), (4, 5), (5, 61), (6, 9)]

def gam : Gam where
  F := S.lk gtbl
  T := fun t => (S.lk ttbl t).getD 0
  K := [.pin 0 (.ints .u64 [1, 10, 100, 1000, 10000, 100000, 1000000, 10000000, 100000000, 1000000000, 10000000000, 100000000000, 1000000000000, 10000000000000, 100000000000000, 1000000000000000, 10000000000000000, 100000000000000000, 1000000000000000000, 10000000000000000000]), .pin 1 (.anyInt .i64), .pin 2 (.anyIfc), .pin 3 (.anyIfc)]

theorem link456 : funM Tryz.prog gam S.f456 Tryz.f3 = true := by kernel_rfl
theorem link466 : funM Tryz.prog gam S.f466 Tryz.f4 = true := by kernel_rfl
theorem link468 : funM Tryz.prog gam S.f468 Tryz.f5 = true := by kernel_rfl
theorem link457 : funM Tryz.prog gam S.f457 Tryz.f6 = true := by kernel_rfl
theorem link458 : funM Tryz.prog gam S.f458 Tryz.f7 = true := by kernel_rfl
theorem link447 : funM Tryz.prog gam S.f447 Tryz.f8 = true := by kernel_rfl
theorem link459 : funM Tryz.prog gam S.f459 Tryz.f9 = true := by kernel_rfl
theorem link460 : funM Tryz.prog gam S.f460 Tryz.f10 = true := by kernel_rfl
theorem link461 : funM Tryz.prog gam S.f461 Tryz.f11 = true := by kernel_rfl
theorem link462 : funM Tryz.prog gam S.f462 Tryz.f12 = true := by kernel_rfl
theorem link463 : funM Tryz.prog gam S.f463 Tryz.f13 = true := by kernel_rfl
theorem link464 : funM Tryz.prog gam S.f464 Tryz.f14 = true := by kernel_rfl
theorem link465 : funM Tryz.prog gam S.f465 Tryz.f15 = true := by kernel_rfl
theorem link467 : funM Tryz.prog gam S.f467 Tryz.f16 = true := by kernel_rfl
theorem link436 : funM Tryz.prog gam S.f436 Tryz.f17 = true := by kernel_rfl
theorem link52 : funM Tryz.prog gam S.f52 Tryz.f18 = true := by kernel_rfl
theorem link114 : funM Tryz.prog gam S.f114 Tryz.f19 = true := by kernel_rfl
theorem link452 : funM Tryz.prog gam S.f452 Tryz.f20 = true := by kernel_rfl
theorem link451 : funM Tryz.prog gam S.f451 Tryz.f21 = true := by kernel_rfl
theorem link470 : funM Tryz.prog gam S.f470 Tryz.f22 = true := by kernel_rfl
theorem link469 : funM Tryz.prog gam S.f469 Tryz.f23 = true := by kernel_rfl
theorem link61 : funM Tryz.prog gam S.f61 Tryz.f24 = true := by kernel_rfl
theorem link64 : funM Tryz.prog gam S.f64 Tryz.f25 = true := by kernel_rfl
theorem link99 : funM Tryz.prog gam S.f99 Tryz.f26 = true := by kernel_rfl
theorem link90 : funM Tryz.prog gam S.f90 Tryz.f30 = true := by kernel_rfl
theorem link471 : funM Tryz.prog gam S.f471 Tryz.f31 = true := by kernel_rfl
theorem link101 : funM Tryz.prog gam S.f101 Tryz.f32 = true := by kernel_rfl
theorem link91 : funM Tryz.prog gam S.f91 Tryz.f33 = true := by kernel_rfl
theorem link93 : funM Tryz.prog gam S.f93 Tryz.f34 = true := by kernel_rfl
theorem link138 : funM Tryz.prog gam S.f138 Tryz.f35 = true := by kernel_rfl
theorem link265 : funM Tryz.prog gam S.f265 Tryz.f36 = true := by kernel_rfl
theorem link441 : funM Tryz.prog gam S.f441 Tryz.f37 = true := by kernel_rfl
theorem link442 : funM Tryz.prog gam S.f442 Tryz.f38 = true := by kernel_rfl
theorem link111 : funM Tryz.prog gam S.f111 Tryz.f39 = true := by kernel_rfl
theorem link455 : funM Tryz.prog gam S.f455 Tryz.f40 = true := by kernel_rfl
theorem link92 : funM Tryz.prog gam S.f92 Tryz.f46 = true := by kernel_rfl
theorem link94 : funM Tryz.prog gam S.f94 Tryz.f47 = true := by kernel_rfl
theorem link95 : funM Tryz.prog gam S.f95 Tryz.f48 = true := by kernel_rfl
theorem link273 : funM Tryz.prog gam S.f273 Tryz.f49 = true := by kernel_rfl
theorem link305 : funM Tryz.prog gam S.f305 Tryz.f50 = true := by kernel_rfl
theorem link444 : funM Tryz.prog gam S.f444 Tryz.f51 = true := by kernel_rfl
theorem link306 : funM Tryz.prog gam S.f306 Tryz.f52 = true := by kernel_rfl
theorem link449 : funM Tryz.prog gam S.f449 Tryz.f53 = true := by kernel_rfl
theorem link309 : funM Tryz.prog gam S.f309 Tryz.f54 = true := by kernel_rfl
theorem link312 : funM Tryz.prog gam S.f312 Tryz.f55 = true := by kernel_rfl
theorem link310 : funM Tryz.prog gam S.f310 Tryz.f56 = true := by kernel_rfl
theorem link450 : funM Tryz.prog gam S.f450 Tryz.f57 = true := by kernel_rfl
theorem link307 : funM Tryz.prog gam S.f307 Tryz.f58 = true := by kernel_rfl
theorem link316 : funM Tryz.prog gam S.f316 Tryz.f59 = true := by kernel_rfl
theorem link127 : funM Tryz.prog gam S.f127 Tryz.f60 = true := by kernel_rfl
theorem link97 : funM Tryz.prog gam S.f97 Tryz.f69 = true := by kernel_rfl
theorem link285 : funM Tryz.prog gam S.f285 Tryz.f70 = true := by kernel_rfl
theorem link286 : funM Tryz.prog gam S.f286 Tryz.f71 = true := by kernel_rfl
theorem link287 : funM Tryz.prog gam S.f287 Tryz.f72 = true := by kernel_rfl
theorem link288 : funM Tryz.prog gam S.f288 Tryz.f73 = true := by kernel_rfl
theorem link317 : funM Tryz.prog gam S.f317 Tryz.f74 = true := by kernel_rfl
theorem link318 : funM Tryz.prog gam S.f318 Tryz.f75 = true := by kernel_rfl
theorem link319 : funM Tryz.prog gam S.f319 Tryz.f76 = true := by kernel_rfl
theorem link5 : funM Tryz.prog gam S.f5 Tryz.f77 = true := by kernel_rfl
theorem link320 : funM Tryz.prog gam S.f320 Tryz.f78 = true := by kernel_rfl
theorem link322 : funM Tryz.prog gam S.f322 Tryz.f80 = true := by kernel_rfl
theorem link323 : funM Tryz.prog gam S.f323 Tryz.f81 = true := by kernel_rfl
theorem link6 : funM Tryz.prog gam S.f6 Tryz.f82 = true := by kernel_rfl
theorem link48 : funM Tryz.prog gam S.f48 Tryz.f83 = true := by kernel_rfl
theorem link324 : funM Tryz.prog gam S.f324 Tryz.f84 = true := by kernel_rfl
theorem link454 : funM Tryz.prog gam S.f454 Tryz.f85 = true := by kernel_rfl
theorem link308 : funM Tryz.prog gam S.f308 Tryz.f87 = true := by kernel_rfl
theorem link333 : funM Tryz.prog gam S.f333 Tryz.f88 = true := by kernel_rfl
theorem link55 : funM Tryz.prog gam S.f55 Tryz.f89 = true := by kernel_rfl
theorem link39 : funM Tryz.prog gam S.f39 Tryz.f90 = true := by kernel_rfl
theorem link30 : funM Tryz.prog gam S.f30 Tryz.f92 = true := by kernel_rfl
theorem link325 : funM Tryz.prog gam S.f325 Tryz.f93 = true := by kernel_rfl
theorem link326 : funM Tryz.prog gam S.f326 Tryz.f94 = true := by kernel_rfl
theorem link327 : funM Tryz.prog gam S.f327 Tryz.f95 = true := by kernel_rfl
theorem link219 : funM Tryz.prog gam S.f219 Tryz.f118 = true := by kernel_rfl
theorem link294 : funM Tryz.prog gam S.f294 Tryz.f119 = true := by kernel_rfl
theorem link295 : funM Tryz.prog gam S.f295 Tryz.f120 = true := by kernel_rfl
theorem link297 : funM Tryz.prog gam S.f297 Tryz.f121 = true := by kernel_rfl
theorem link296 : funM Tryz.prog gam S.f296 Tryz.f122 = true := by kernel_rfl
theorem link235 : funM Tryz.prog gam S.f235 Tryz.f123 = true := by kernel_rfl
theorem link335 : funM Tryz.prog gam S.f335 Tryz.f125 = true := by kernel_rfl
theorem link336 : funM Tryz.prog gam S.f336 Tryz.f126 = true := by kernel_rfl
theorem link338 : funM Tryz.prog gam S.f338 Tryz.f127 = true := by kernel_rfl
theorem link337 : funM Tryz.prog gam S.f337 Tryz.f128 = true := by kernel_rfl
theorem link358 : funM Tryz.prog gam S.f358 Tryz.f129 = true := by kernel_rfl
theorem link340 : funM Tryz.prog gam S.f340 Tryz.f130 = true := by kernel_rfl
theorem link339 : funM Tryz.prog gam S.f339 Tryz.f131 = true := by kernel_rfl
theorem link65 : funM Tryz.prog gam S.f65 Tryz.f133 = true := by kernel_rfl
theorem link17 : funM Tryz.prog gam S.f17 Tryz.f138 = true := by kernel_rfl
theorem link331 : funM Tryz.prog gam S.f331 Tryz.f139 = true := by kernel_rfl
theorem link36 : funM Tryz.prog gam S.f36 Tryz.f141 = true := by kernel_rfl
theorem link342 : funM Tryz.prog gam S.f342 Tryz.f142 = true := by kernel_rfl
theorem link43 : funM Tryz.prog gam S.f43 Tryz.f144 = true := by kernel_rfl
theorem link41 : funM Tryz.prog gam S.f41 Tryz.f145 = true := by kernel_rfl
theorem link188 : funM Tryz.prog gam S.f188 Tryz.f157 = true := by kernel_rfl
theorem link224 : funM Tryz.prog gam S.f224 Tryz.f174 = true := by kernel_rfl
theorem link223 : funM Tryz.prog gam S.f223 Tryz.f176 = true := by kernel_rfl
theorem link301 : funM Tryz.prog gam S.f301 Tryz.f177 = true := by kernel_rfl
theorem link238 : funM Tryz.prog gam S.f238 Tryz.f178 = true := by kernel_rfl
theorem link357 : funM Tryz.prog gam S.f357 Tryz.f179 = true := by kernel_rfl
theorem link359 : funM Tryz.prog gam S.f359 Tryz.f180 = true := by kernel_rfl
theorem link360 : funM Tryz.prog gam S.f360 Tryz.f181 = true := by kernel_rfl
theorem link361 : funM Tryz.prog gam S.f361 Tryz.f182 = true := by kernel_rfl
theorem link362 : funM Tryz.prog gam S.f362 Tryz.f183 = true := by kernel_rfl
theorem link354 : funM Tryz.prog gam S.f354 Tryz.f188 = true := by kernel_rfl
theorem link363 : funM Tryz.prog gam S.f363 Tryz.f192 = true := by kernel_rfl
theorem link356 : funM Tryz.prog gam S.f356 Tryz.f193 = true := by kernel_rfl
theorem link379 : funM Tryz.prog gam S.f379 Tryz.f218 = true := by kernel_rfl
theorem link382 : funM Tryz.prog gam S.f382 Tryz.f220 = true := by kernel_rfl
theorem link381 : funM Tryz.prog gam S.f381 Tryz.f221 = true := by kernel_rfl
theorem link384 : funM Tryz.prog gam S.f384 Tryz.f225 = true := by kernel_rfl
theorem link399 : funM Tryz.prog gam S.f399 Tryz.f244 = true := by kernel_rfl
theorem link408 : funM Tryz.prog gam S.f408 Tryz.f256 = true := by kernel_rfl

theorem lk_mem {α : Type} : ∀ (l : List (Nat × α)) (i : Nat) (v : α), S.lk l i = some v → (i, v) ∈ l
  | [], i, v, h => by cases h
  | (k, u) :: r, i, v, h => by
    unfold S.lk at h
    cases hb : Nat.beq i k with
    | true =>
      rw [hb] at h
      have := Nat.eq_of_beq_eq_true hb
      subst this
      cases h
      exact List.mem_cons_self
    | false => rw [hb] at h; exact List.mem_cons_of_mem _ (lk_mem r i v h)

theorem lkYes {g fid : Nat} {sf : SFunc} {fn : Func} (h1 : S.pg g = some sf) (h2 : Tryz.prog.funcs[fid]? = some fn) (h3 : funM Tryz.prog gam sf fn = true) : ∀ sf', S.pg g = some sf' → ∃ fn, Tryz.prog.funcs[fid]? = some fn ∧ funM Tryz.prog gam sf' fn = true :=
  fun sf' h => by rw [h1] at h; cases h; exact ⟨fn, h2, h3⟩
theorem lkNo {g fid : Nat} (h1 : S.pg g = none) : ∀ sf', S.pg g = some sf' → ∃ fn, Tryz.prog.funcs[fid]? = some fn ∧ funM Tryz.prog gam sf' fn = true :=
  fun sf' h => by rw [h1] at h; cases h
theorem allN {p : Nat × Nat → Prop} : ∀ x ∈ ([] : List (Nat × Nat)), p x := fun _ h => by cases h
theorem allC {p : Nat × Nat → Prop} {a : Nat × Nat} {l : List (Nat × Nat)} (h : p a) (k : ∀ x ∈ l, p x) : ∀ x ∈ a :: l, p x := fun x hx => by
  rcases List.mem_cons.1 hx with rfl | hx
  · exact h
  · exact k x hx

set_option maxRecDepth 100000 in
theorem linkedAll : ∀ x ∈ gtbl, ∀ sf', S.pg x.1 = some sf' → ∃ fn, Tryz.prog.funcs[x.2]? = some fn ∧ funM Tryz.prog gam sf' fn = true :=
  allC (lkYes S.pg456 Tryz.func3 link456) <|
  allC (lkYes S.pg466 Tryz.func4 link466) <|
  allC (lkYes S.pg468 Tryz.func5 link468) <|
  allC (lkYes S.pg457 Tryz.func6 link457) <|
  allC (lkYes S.pg458 Tryz.func7 link458) <|
  allC (lkYes S.pg447 Tryz.func8 link447) <|
  allC (lkYes S.pg459 Tryz.func9 link459) <|
  allC (lkYes S.pg460 Tryz.func10 link460) <|
  allC (lkYes S.pg461 Tryz.func11 link461) <|
  allC (lkYes S.pg462 Tryz.func12 link462) <|
  allC (lkYes S.pg463 Tryz.func13 link463) <|
  allC (lkYes S.pg464 Tryz.func14 link464) <|
  allC (lkYes S.pg465 Tryz.func15 link465) <|
  allC (lkYes S.pg467 Tryz.func16 link467) <|
  allC (lkYes S.pg436 Tryz.func17 link436) <|
  allC (lkYes S.pg52 Tryz.func18 link52) <|
  allC (lkYes S.pg114 Tryz.func19 link114) <|
  allC (lkYes S.pg452 Tryz.func20 link452) <|
  allC (lkYes S.pg451 Tryz.func21 link451) <|
  allC (lkYes S.pg470 Tryz.func22 link470) <|
  allC (lkYes S.pg469 Tryz.func23 link469) <|
  allC (lkYes S.pg61 Tryz.func24 link61) <|
  allC (lkYes S.pg64 Tryz.func25 link64) <|
  allC (lkYes S.pg99 Tryz.func26 link99) <|
  allC (lkYes S.pg90 Tryz.func30 link90) <|
  allC (lkYes S.pg471 Tryz.func31 link471) <|
  allC (lkYes S.pg101 Tryz.func32 link101) <|
  allC (lkYes S.pg91 Tryz.func33 link91) <|
  allC (lkYes S.pg93 Tryz.func34 link93) <|
  allC (lkYes S.pg138 Tryz.func35 link138) <|
  allC (lkYes S.pg265 Tryz.func36 link265) <|
  allC (lkYes S.pg441 Tryz.func37 link441) <|
  allC (lkYes S.pg442 Tryz.func38 link442) <|
  allC (lkYes S.pg111 Tryz.func39 link111) <|
  allC (lkYes S.pg455 Tryz.func40 link455) <|
  allC (lkYes S.pg92 Tryz.func46 link92) <|
  allC (lkYes S.pg94 Tryz.func47 link94) <|
  allC (lkYes S.pg95 Tryz.func48 link95) <|
  allC (lkYes S.pg273 Tryz.func49 link273) <|
  allC (lkYes S.pg305 Tryz.func50 link305) <|
  allC (lkYes S.pg444 Tryz.func51 link444) <|
  allC (lkYes S.pg306 Tryz.func52 link306) <|
  allC (lkYes S.pg449 Tryz.func53 link449) <|
  allC (lkYes S.pg309 Tryz.func54 link309) <|
  allC (lkYes S.pg312 Tryz.func55 link312) <|
  allC (lkYes S.pg310 Tryz.func56 link310) <|
  allC (lkYes S.pg450 Tryz.func57 link450) <|
  allC (lkYes S.pg307 Tryz.func58 link307) <|
  allC (lkYes S.pg316 Tryz.func59 link316) <|
  allC (lkYes S.pg127 Tryz.func60 link127) <|
  allC (lkNo rfl) <|
  allC (lkYes S.pg97 Tryz.func69 link97) <|
  allC (lkYes S.pg285 Tryz.func70 link285) <|
  allC (lkYes S.pg286 Tryz.func71 link286) <|
  allC (lkYes S.pg287 Tryz.func72 link287) <|
  allC (lkYes S.pg288 Tryz.func73 link288) <|
  allC (lkYes S.pg317 Tryz.func74 link317) <|
  allC (lkYes S.pg318 Tryz.func75 link318) <|
  allC (lkYes S.pg319 Tryz.func76 link319) <|
  allC (lkYes S.pg5 Tryz.func77 link5) <|
  allC (lkYes S.pg320 Tryz.func78 link320) <|
  allC (lkNo rfl) <|
  allC (lkYes S.pg322 Tryz.func80 link322) <|
  allC (lkYes S.pg323 Tryz.func81 link323) <|
  allC (lkYes S.pg6 Tryz.func82 link6) <|
  allC (lkYes S.pg48 Tryz.func83 link48) <|
  allC (lkYes S.pg324 Tryz.func84 link324) <|
  allC (lkYes S.pg454 Tryz.func85 link454) <|
  allC (lkNo rfl) <|
  allC (lkYes S.pg308 Tryz.func87 link308) <|
  allC (lkYes S.pg333 Tryz.func88 link333) <|
  allC (lkYes S.pg55 Tryz.func89 link55) <|
  allC (lkYes S.pg39 Tryz.func90 link39) <|
  allC (lkYes S.pg30 Tryz.func92 link30) <|
  allC (lkYes S.pg325 Tryz.func93 link325) <|
  allC (lkYes S.pg326 Tryz.func94 link326) <|
  allC (lkYes S.pg327 Tryz.func95 link327) <|
  allC (lkNo rfl) <|
  allC (lkNo rfl) <|
  allC (lkNo rfl) <|
  allC (lkNo rfl) <|
  allC (lkNo rfl) <|
  allC (lkNo rfl) <|
  allC (lkNo rfl) <|
  allC (lkNo rfl) <|
  allC (lkYes S.pg219 Tryz.func118 link219) <|
  allC (lkYes S.pg294 Tryz.func119 link294) <|
  allC (lkYes S.pg295 Tryz.func120 link295) <|
  allC (lkYes S.pg297 Tryz.func121 link297) <|
  allC (lkYes S.pg296 Tryz.func122 link296) <|
  allC (lkYes S.pg235 Tryz.func123 link235) <|
  allC (lkNo rfl) <|
  allC (lkYes S.pg335 Tryz.func125 link335) <|
  allC (lkYes S.pg336 Tryz.func126 link336) <|
  allC (lkYes S.pg338 Tryz.func127 link338) <|
  allC (lkYes S.pg337 Tryz.func128 link337) <|
  allC (lkYes S.pg358 Tryz.func129 link358) <|
  allC (lkYes S.pg340 Tryz.func130 link340) <|
  allC (lkYes S.pg339 Tryz.func131 link339) <|
  allC (lkNo rfl) <|
  allC (lkYes S.pg65 Tryz.func133 link65) <|
  allC (lkNo rfl) <|
  allC (lkNo rfl) <|
  allC (lkNo rfl) <|
  allC (lkNo rfl) <|
  allC (lkYes S.pg17 Tryz.func138 link17) <|
  allC (lkYes S.pg331 Tryz.func139 link331) <|
  allC (lkNo rfl) <|
  allC (lkYes S.pg36 Tryz.func141 link36) <|
  allC (lkYes S.pg342 Tryz.func142 link342) <|
  allC (lkNo rfl) <|
  allC (lkYes S.pg43 Tryz.func144 link43) <|
  allC (lkYes S.pg41 Tryz.func145 link41) <|
  allC (lkNo rfl) <|
  allC (lkNo rfl) <|
  allC (lkNo rfl) <|
  allC (lkNo rfl) <|
  allC (lkNo rfl) <|
  allC (lkNo rfl) <|
  allC (lkNo rfl) <|
  allC (lkNo rfl) <|
  allC (lkNo rfl) <|
  allC (lkNo rfl) <|
  allC (lkYes S.pg188 Tryz.func157 link188) <|
  allC (lkNo rfl) <|
  allC (lkYes S.pg224 Tryz.func174 link224) <|
  allC (lkNo rfl) <|
  allC (lkYes S.pg223 Tryz.func176 link223) <|
  allC (lkYes S.pg301 Tryz.func177 link301) <|
  allC (lkYes S.pg238 Tryz.func178 link238) <|
  allC (lkYes S.pg357 Tryz.func179 link357) <|
  allC (lkYes S.pg359 Tryz.func180 link359) <|
  allC (lkYes S.pg360 Tryz.func181 link360) <|
  allC (lkYes S.pg361 Tryz.func182 link361) <|
  allC (lkYes S.pg362 Tryz.func183 link362) <|
  allC (lkNo rfl) <|
  allC (lkNo rfl) <|
  allC (lkNo rfl) <|
  allC (lkNo rfl) <|
  allC (lkYes S.pg354 Tryz.func188 link354) <|
  allC (lkNo rfl) <|
  allC (lkNo rfl) <|
  allC (lkNo rfl) <|
  allC (lkYes S.pg363 Tryz.func192 link363) <|
  allC (lkYes S.pg356 Tryz.func193 link356) <|
  allC (lkNo rfl) <|
  allC (lkNo rfl) <|
  allC (lkNo rfl) <|
  allC (lkNo rfl) <|
  allC (lkNo rfl) <|
  allC (lkNo rfl) <|
  allC (lkNo rfl) <|
  allC (lkNo rfl) <|
  allC (lkNo rfl) <|
  allC (lkYes S.pg379 Tryz.func218 link379) <|
  allC (lkNo rfl) <|
  allC (lkYes S.pg382 Tryz.func220 link382) <|
  allC (lkYes S.pg381 Tryz.func221 link381) <|
  allC (lkNo rfl) <|
  allC (lkNo rfl) <|
  allC (lkNo rfl) <|
  allC (lkYes S.pg384 Tryz.func225 link384) <|
  allC (lkNo rfl) <|
  allC (lkNo rfl) <|
  allC (lkNo rfl) <|
  allC (lkNo rfl) <|
  allC (lkNo rfl) <|
  allC (lkNo rfl) <|
  allC (lkNo rfl) <|
  allC (lkNo rfl) <|
  allC (lkNo rfl) <|
  allC (lkNo rfl) <|
  allC (lkYes S.pg399 Tryz.func244 link399) <|
  allC (lkNo rfl) <|
  allC (lkNo rfl) <|
  allC (lkNo rfl) <|
  allC (lkNo rfl) <|
  allC (lkNo rfl) <|
  allC (lkNo rfl) <|
  allC (lkNo rfl) <|
  allC (lkNo rfl) <|
  allC (lkNo rfl) <|
  allC (lkNo rfl) <|
  allC (lkNo rfl) <|
  allC (lkYes S.pg408 Tryz.func256 link408) <|
  allC (lkNo rfl) <|
  allC (lkNo rfl) <|
  allC (lkNo rfl) <|
  allC (lkNo rfl) <|
  allC (lkNo rfl) <|
  allC (lkNo rfl) <|
  allC (lkNo rfl) <|
  allC (lkNo rfl) <|
  allC (lkNo rfl) <|
  allC (lkNo rfl) <|
  allC (lkNo rfl) <|
  allC (lkNo rfl) <|
  allC (lkNo rfl) <|
  allC (lkNo rfl) <|
  allC (lkNo rfl) <|
  allC (lkNo rfl) <|
  allC (lkNo rfl) <|
  allC (lkNo rfl) <|
  allC (lkNo rfl) <|
  allC (lkNo rfl) <|
  allC (lkNo rfl) <|
  allC (lkNo rfl) <|
  allC (lkNo rfl) <|
  allC (lkNo rfl) <|
  allC (lkNo rfl) <|
  allC (lkNo rfl) <|
  allC (lkNo rfl) <|
  allC (lkNo rfl) <|
  allC (lkNo rfl) <|
  allC (lkNo rfl) <|
  allC (lkNo rfl) <|
  allC (lkNo rfl) <|
  allC (lkNo rfl) <|
  allC (lkNo rfl) <|
  allC (lkNo rfl) <|
  allC (lkNo rfl) <|
  allC (lkNo rfl) <|
  allC (lkNo rfl) <|
  allC (lkNo rfl) <|
  allC (lkNo rfl) <|
  allC (lkNo rfl) <|
  allC (lkNo rfl) <|
  allC (lkNo rfl) <|
  allC (lkNo rfl) <|
  allC (lkNo rfl) <|
  allC (lkNo rfl) <|
  allC (lkNo rfl) <|
  allC (lkNo rfl) <|
  allC (lkNo rfl) <|
  allC (lkNo rfl) <|
  allC (lkNo rfl) <|
  allC (lkNo rfl) <|
  allC (lkNo rfl) <|
  allC (lkNo rfl) <|
  allC (lkNo rfl) <|
  allC (lkNo rfl) <|
  allC (lkNo rfl) <|
  allC (lkNo rfl) <|
  allC (lkNo rfl) <|
  allC (lkNo rfl) <|
  allC (lkNo rfl) <|
  allC (lkNo rfl) <|
  allC (lkNo rfl) <|
  allC (lkNo rfl) <|
  allC (lkNo rfl) <|
  allC (lkNo rfl) <|
  allC (lkNo rfl) <|
  allC (lkNo rfl) <|
  allC (lkNo rfl) <|
  allC (lkNo rfl) <|
  allC (lkNo rfl) <|
  allC (lkNo rfl) <|
  allC (lkNo rfl) <|
  allC (lkNo rfl) <|
  allC (lkNo rfl) <|
  allC (lkNo rfl) <|
  allC (lkNo rfl) <|
  allN

theorem linked : Linked Tryz.prog gam S.pg := fun f fid hf sf hs => linkedAll (f, fid) (lk_mem gtbl f fid hf) sf hs

set_option maxRecDepth 100000 in
theorem goodAll : ∀ x ∈ gtbl, ∃ fn, Tryz.prog.funcs[x.2]? = some fn ∧ fn.body.isNone = false ∧ (fn.name == "runtime.NumGoroutine") = false :=
  allC ⟨_, Tryz.func3, by kernel_rfl, by kernel_rfl⟩ <|
  allC ⟨_, Tryz.func4, by kernel_rfl, by kernel_rfl⟩ <|
  allC ⟨_, Tryz.func5, by kernel_rfl, by kernel_rfl⟩ <|
  allC ⟨_, Tryz.func6, by kernel_rfl, by kernel_rfl⟩ <|
  allC ⟨_, Tryz.func7, by kernel_rfl, by kernel_rfl⟩ <|
  allC ⟨_, Tryz.func8, by kernel_rfl, by kernel_rfl⟩ <|
  allC ⟨_, Tryz.func9, by kernel_rfl, by kernel_rfl⟩ <|
  allC ⟨_, Tryz.func10, by kernel_rfl, by kernel_rfl⟩ <|
  allC ⟨_, Tryz.func11, by kernel_rfl, by kernel_rfl⟩ <|
  allC ⟨_, Tryz.func12, by kernel_rfl, by kernel_rfl⟩ <|
  allC ⟨_, Tryz.func13, by kernel_rfl, by kernel_rfl⟩ <|
  allC ⟨_, Tryz.func14, by kernel_rfl, by kernel_rfl⟩ <|
  allC ⟨_, Tryz.func15, by kernel_rfl, by kernel_rfl⟩ <|
  allC ⟨_, Tryz.func16, by kernel_rfl, by kernel_rfl⟩ <|
  allC ⟨_, Tryz.func17, by kernel_rfl, by kernel_rfl⟩ <|
  allC ⟨_, Tryz.func18, by kernel_rfl, by kernel_rfl⟩ <|
  allC ⟨_, Tryz.func19, by kernel_rfl, by kernel_rfl⟩ <|
  allC ⟨_, Tryz.func20, by kernel_rfl, by kernel_rfl⟩ <|
  allC ⟨_, Tryz.func21, by kernel_rfl, by kernel_rfl⟩ <|
  allC ⟨_, Tryz.func22, by kernel_rfl, by kernel_rfl⟩ <|
  allC ⟨_, Tryz.func23, by kernel_rfl, by kernel_rfl⟩ <|
  allC ⟨_, Tryz.func24, by kernel_rfl, by kernel_rfl⟩ <|
  allC ⟨_, Tryz.func25, by kernel_rfl, by kernel_rfl⟩ <|
  allC ⟨_, Tryz.func26, by kernel_rfl, by kernel_rfl⟩ <|
  allC ⟨_, Tryz.func30, by kernel_rfl, by kernel_rfl⟩ <|
  allC ⟨_, Tryz.func31, by kernel_rfl, by kernel_rfl⟩ <|
  allC ⟨_, Tryz.func32, by kernel_rfl, by kernel_rfl⟩ <|
  allC ⟨_, Tryz.func33, by kernel_rfl, by kernel_rfl⟩ <|
  allC ⟨_, Tryz.func34, by kernel_rfl, by kernel_rfl⟩ <|
  allC ⟨_, Tryz.func35, by kernel_rfl, by kernel_rfl⟩ <|
  allC ⟨_, Tryz.func36, by kernel_rfl, by kernel_rfl⟩ <|
  allC ⟨_, Tryz.func37, by kernel_rfl, by kernel_rfl⟩ <|
  allC ⟨_, Tryz.func38, by kernel_rfl, by kernel_rfl⟩ <|
  allC ⟨_, Tryz.func39, by kernel_rfl, by kernel_rfl⟩ <|
  allC ⟨_, Tryz.func40, by kernel_rfl, by kernel_rfl⟩ <|
  allC ⟨_, Tryz.func46, by kernel_rfl, by kernel_rfl⟩ <|
  allC ⟨_, Tryz.func47, by kernel_rfl, by kernel_rfl⟩ <|
  allC ⟨_, Tryz.func48, by kernel_rfl, by kernel_rfl⟩ <|
  allC ⟨_, Tryz.func49, by kernel_rfl, by kernel_rfl⟩ <|
  allC ⟨_, Tryz.func50, by kernel_rfl, by kernel_rfl⟩ <|
  allC ⟨_, Tryz.func51, by kernel_rfl, by kernel_rfl⟩ <|
  allC ⟨_, Tryz.func52, by kernel_rfl, by kernel_rfl⟩ <|
  allC ⟨_, Tryz.func53, by kernel_rfl, by kernel_rfl⟩ <|
  allC ⟨_, Tryz.func54, by kernel_rfl, by kernel_rfl⟩ <|
  allC ⟨_, Tryz.func55, by kernel_rfl, by kernel_rfl⟩ <|
  allC ⟨_, Tryz.func56, by kernel_rfl, by kernel_rfl⟩ <|
  allC ⟨_, Tryz.func57, by kernel_rfl, by kernel_rfl⟩ <|
  allC ⟨_, Tryz.func58, by kernel_rfl, by kernel_rfl⟩ <|
  allC ⟨_, Tryz.func59, by kernel_rfl, by kernel_rfl⟩ <|
  allC ⟨_, Tryz.func60, by kernel_rfl, by kernel_rfl⟩ <|
  allC ⟨_, Tryz.func67, by kernel_rfl, by kernel_rfl⟩ <|
  allC ⟨_, Tryz.func69, by kernel_rfl, by kernel_rfl⟩ <|
  allC ⟨_, Tryz.func70, by kernel_rfl, by kernel_rfl⟩ <|
  allC ⟨_, Tryz.func71, by kernel_rfl, by kernel_rfl⟩ <|
  allC ⟨_, Tryz.func72, by kernel_rfl, by kernel_rfl⟩ <|
  allC ⟨_, Tryz.func73, by kernel_rfl, by kernel_rfl⟩ <|
  allC ⟨_, Tryz.func74, by kernel_rfl, by kernel_rfl⟩ <|
  allC ⟨_, Tryz.func75, by kernel_rfl, by kernel_rfl⟩ <|
  allC ⟨_, Tryz.func76, by kernel_rfl, by kernel_rfl⟩ <|
  allC ⟨_, Tryz.func77, by kernel_rfl, by kernel_rfl⟩ <|
  allC ⟨_, Tryz.func78, by kernel_rfl, by kernel_rfl⟩ <|
  allC ⟨_, Tryz.func79, by kernel_rfl, by kernel_rfl⟩ <|
  allC ⟨_, Tryz.func80, by kernel_rfl, by kernel_rfl⟩ <|
  allC ⟨_, Tryz.func81, by kernel_rfl, by kernel_rfl⟩ <|
  allC ⟨_, Tryz.func82, by kernel_rfl, by kernel_rfl⟩ <|
  allC ⟨_, Tryz.func83, by kernel_rfl, by kernel_rfl⟩ <|
  allC ⟨_, Tryz.func84, by kernel_rfl, by kernel_rfl⟩ <|
  allC ⟨_, Tryz.func85, by kernel_rfl, by kernel_rfl⟩ <|
  allC ⟨_, Tryz.func86, by kernel_rfl, by kernel_rfl⟩ <|
  allC ⟨_, Tryz.func87, by kernel_rfl, by kernel_rfl⟩ <|
  allC ⟨_, Tryz.func88, by kernel_rfl, by kernel_rfl⟩ <|
  allC ⟨_, Tryz.func89, by kernel_rfl, by kernel_rfl⟩ <|
  allC ⟨_, Tryz.func90, by kernel_rfl, by kernel_rfl⟩ <|
  allC ⟨_, Tryz.func92, by kernel_rfl, by kernel_rfl⟩ <|
  allC ⟨_, Tryz.func93, by kernel_rfl, by kernel_rfl⟩ <|
  allC ⟨_, Tryz.func94, by kernel_rfl, by kernel_rfl⟩ <|
  allC ⟨_, Tryz.func95, by kernel_rfl, by kernel_rfl⟩ <|
  allC ⟨_, Tryz.func96, by kernel_rfl, by kernel_rfl⟩ <|
  allC ⟨_, Tryz.func97, by kernel_rfl, by kernel_rfl⟩ <|
  allC ⟨_, Tryz.func98, by kernel_rfl, by kernel_rfl⟩ <|
  allC ⟨_, Tryz.func109, by kernel_rfl, by kernel_rfl⟩ <|
  allC ⟨_, Tryz.func110, by kernel_rfl, by kernel_rfl⟩ <|
  allC ⟨_, Tryz.func111, by kernel_rfl, by kernel_rfl⟩ <|
  allC ⟨_, Tryz.func112, by kernel_rfl, by kernel_rfl⟩ <|
  allC ⟨_, Tryz.func113, by kernel_rfl, by kernel_rfl⟩ <|
  allC ⟨_, Tryz.func118, by kernel_rfl, by kernel_rfl⟩ <|
  allC ⟨_, Tryz.func119, by kernel_rfl, by kernel_rfl⟩ <|
  allC ⟨_, Tryz.func120, by kernel_rfl, by kernel_rfl⟩ <|
  allC ⟨_, Tryz.func121, by kernel_rfl, by kernel_rfl⟩ <|
  allC ⟨_, Tryz.func122, by kernel_rfl, by kernel_rfl⟩ <|
  allC ⟨_, Tryz.func123, by kernel_rfl, by kernel_rfl⟩ <|
  allC ⟨_, Tryz.func124, by kernel_rfl, by kernel_rfl⟩ <|
  allC ⟨_, Tryz.func125, by kernel_rfl, by kernel_rfl⟩ <|
  allC ⟨_, Tryz.func126, by kernel_rfl, by kernel_rfl⟩ <|
  allC ⟨_, Tryz.func127, by kernel_rfl, by kernel_rfl⟩ <|
  allC ⟨_, Tryz.func128, by kernel_rfl, by kernel_rfl⟩ <|
  allC ⟨_, Tryz.func129, by kernel_rfl, by kernel_rfl⟩ <|
  allC ⟨_, Tryz.func130, by kernel_rfl, by kernel_rfl⟩ <|
  allC ⟨_, Tryz.func131, by kernel_rfl, by kernel_rfl⟩ <|
  allC ⟨_, Tryz.func132, by kernel_rfl, by kernel_rfl⟩ <|
  allC ⟨_, Tryz.func133, by kernel_rfl, by kernel_rfl⟩ <|
  allC ⟨_, Tryz.func134, by kernel_rfl, by kernel_rfl⟩ <|
  allC ⟨_, Tryz.func135, by kernel_rfl, by kernel_rfl⟩ <|
  allC ⟨_, Tryz.func136, by kernel_rfl, by kernel_rfl⟩ <|
  allC ⟨_, Tryz.func137, by kernel_rfl, by kernel_rfl⟩ <|
  allC ⟨_, Tryz.func138, by kernel_rfl, by kernel_rfl⟩ <|
  allC ⟨_, Tryz.func139, by kernel_rfl, by kernel_rfl⟩ <|
  allC ⟨_, Tryz.func140, by kernel_rfl, by kernel_rfl⟩ <|
  allC ⟨_, Tryz.func141, by kernel_rfl, by kernel_rfl⟩ <|
  allC ⟨_, Tryz.func142, by kernel_rfl, by kernel_rfl⟩ <|
  allC ⟨_, Tryz.func143, by kernel_rfl, by kernel_rfl⟩ <|
  allC ⟨_, Tryz.func144, by kernel_rfl, by kernel_rfl⟩ <|
  allC ⟨_, Tryz.func145, by kernel_rfl, by kernel_rfl⟩ <|
  allC ⟨_, Tryz.func146, by kernel_rfl, by kernel_rfl⟩ <|
  allC ⟨_, Tryz.func147, by kernel_rfl, by kernel_rfl⟩ <|
  allC ⟨_, Tryz.func148, by kernel_rfl, by kernel_rfl⟩ <|
  allC ⟨_, Tryz.func149, by kernel_rfl, by kernel_rfl⟩ <|
  allC ⟨_, Tryz.func150, by kernel_rfl, by kernel_rfl⟩ <|
  allC ⟨_, Tryz.func151, by kernel_rfl, by kernel_rfl⟩ <|
  allC ⟨_, Tryz.func152, by kernel_rfl, by kernel_rfl⟩ <|
  allC ⟨_, Tryz.func153, by kernel_rfl, by kernel_rfl⟩ <|
  allC ⟨_, Tryz.func154, by kernel_rfl, by kernel_rfl⟩ <|
  allC ⟨_, Tryz.func155, by kernel_rfl, by kernel_rfl⟩ <|
  allC ⟨_, Tryz.func157, by kernel_rfl, by kernel_rfl⟩ <|
  allC ⟨_, Tryz.func166, by kernel_rfl, by kernel_rfl⟩ <|
  allC ⟨_, Tryz.func174, by kernel_rfl, by kernel_rfl⟩ <|
  allC ⟨_, Tryz.func175, by kernel_rfl, by kernel_rfl⟩ <|
  allC ⟨_, Tryz.func176, by kernel_rfl, by kernel_rfl⟩ <|
  allC ⟨_, Tryz.func177, by kernel_rfl, by kernel_rfl⟩ <|
  allC ⟨_, Tryz.func178, by kernel_rfl, by kernel_rfl⟩ <|
  allC ⟨_, Tryz.func179, by kernel_rfl, by kernel_rfl⟩ <|
  allC ⟨_, Tryz.func180, by kernel_rfl, by kernel_rfl⟩ <|
  allC ⟨_, Tryz.func181, by kernel_rfl, by kernel_rfl⟩ <|
  allC ⟨_, Tryz.func182, by kernel_rfl, by kernel_rfl⟩ <|
  allC ⟨_, Tryz.func183, by kernel_rfl, by kernel_rfl⟩ <|
  allC ⟨_, Tryz.func184, by kernel_rfl, by kernel_rfl⟩ <|
  allC ⟨_, Tryz.func185, by kernel_rfl, by kernel_rfl⟩ <|
  allC ⟨_, Tryz.func186, by kernel_rfl, by kernel_rfl⟩ <|
  allC ⟨_, Tryz.func187, by kernel_rfl, by kernel_rfl⟩ <|
  allC ⟨_, Tryz.func188, by kernel_rfl, by kernel_rfl⟩ <|
  allC ⟨_, Tryz.func189, by kernel_rfl, by kernel_rfl⟩ <|
  allC ⟨_, Tryz.func190, by kernel_rfl, by kernel_rfl⟩ <|
  allC ⟨_, Tryz.func191, by kernel_rfl, by kernel_rfl⟩ <|
  allC ⟨_, Tryz.func192, by kernel_rfl, by kernel_rfl⟩ <|
  allC ⟨_, Tryz.func193, by kernel_rfl, by kernel_rfl⟩ <|
  allC ⟨_, Tryz.func194, by kernel_rfl, by kernel_rfl⟩ <|
  allC ⟨_, Tryz.func195, by kernel_rfl, by kernel_rfl⟩ <|
  allC ⟨_, Tryz.func196, by kernel_rfl, by kernel_rfl⟩ <|
  allC ⟨_, Tryz.func197, by kernel_rfl, by kernel_rfl⟩ <|
  allC ⟨_, Tryz.func198, by kernel_rfl, by kernel_rfl⟩ <|
  allC ⟨_, Tryz.func199, by kernel_rfl, by kernel_rfl⟩ <|
  allC ⟨_, Tryz.func200, by kernel_rfl, by kernel_rfl⟩ <|
  allC ⟨_, Tryz.func201, by kernel_rfl, by kernel_rfl⟩ <|
  allC ⟨_, Tryz.func217, by kernel_rfl, by kernel_rfl⟩ <|
  allC ⟨_, Tryz.func218, by kernel_rfl, by kernel_rfl⟩ <|
  allC ⟨_, Tryz.func219, by kernel_rfl, by kernel_rfl⟩ <|
  allC ⟨_, Tryz.func220, by kernel_rfl, by kernel_rfl⟩ <|
  allC ⟨_, Tryz.func221, by kernel_rfl, by kernel_rfl⟩ <|
  allC ⟨_, Tryz.func222, by kernel_rfl, by kernel_rfl⟩ <|
  allC ⟨_, Tryz.func223, by kernel_rfl, by kernel_rfl⟩ <|
  allC ⟨_, Tryz.func224, by kernel_rfl, by kernel_rfl⟩ <|
  allC ⟨_, Tryz.func225, by kernel_rfl, by kernel_rfl⟩ <|
  allC ⟨_, Tryz.func226, by kernel_rfl, by kernel_rfl⟩ <|
  allC ⟨_, Tryz.func227, by kernel_rfl, by kernel_rfl⟩ <|
  allC ⟨_, Tryz.func228, by kernel_rfl, by kernel_rfl⟩ <|
  allC ⟨_, Tryz.func229, by kernel_rfl, by kernel_rfl⟩ <|
  allC ⟨_, Tryz.func230, by kernel_rfl, by kernel_rfl⟩ <|
  allC ⟨_, Tryz.func231, by kernel_rfl, by kernel_rfl⟩ <|
  allC ⟨_, Tryz.func232, by kernel_rfl, by kernel_rfl⟩ <|
  allC ⟨_, Tryz.func234, by kernel_rfl, by kernel_rfl⟩ <|
  allC ⟨_, Tryz.func237, by kernel_rfl, by kernel_rfl⟩ <|
  allC ⟨_, Tryz.func243, by kernel_rfl, by kernel_rfl⟩ <|
  allC ⟨_, Tryz.func244, by kernel_rfl, by kernel_rfl⟩ <|
  allC ⟨_, Tryz.func245, by kernel_rfl, by kernel_rfl⟩ <|
  allC ⟨_, Tryz.func246, by kernel_rfl, by kernel_rfl⟩ <|
  allC ⟨_, Tryz.func247, by kernel_rfl, by kernel_rfl⟩ <|
  allC ⟨_, Tryz.func248, by kernel_rfl, by kernel_rfl⟩ <|
  allC ⟨_, Tryz.func249, by kernel_rfl, by kernel_rfl⟩ <|
  allC ⟨_, Tryz.func250, by kernel_rfl, by kernel_rfl⟩ <|
  allC ⟨_, Tryz.func251, by kernel_rfl, by kernel_rfl⟩ <|
  allC ⟨_, Tryz.func252, by kernel_rfl, by kernel_rfl⟩ <|
  allC ⟨_, Tryz.func253, by kernel_rfl, by kernel_rfl⟩ <|
  allC ⟨_, Tryz.func254, by kernel_rfl, by kernel_rfl⟩ <|
  allC ⟨_, Tryz.func255, by kernel_rfl, by kernel_rfl⟩ <|
  allC ⟨_, Tryz.func256, by kernel_rfl, by kernel_rfl⟩ <|
  allC ⟨_, Tryz.func257, by kernel_rfl, by kernel_rfl⟩ <|
  allC ⟨_, Tryz.func258, by kernel_rfl, by kernel_rfl⟩ <|
  allC ⟨_, Tryz.func259, by kernel_rfl, by kernel_rfl⟩ <|
  allC ⟨_, Tryz.func260, by kernel_rfl, by kernel_rfl⟩ <|
  allC ⟨_, Tryz.func261, by kernel_rfl, by kernel_rfl⟩ <|
  allC ⟨_, Tryz.func262, by kernel_rfl, by kernel_rfl⟩ <|
  allC ⟨_, Tryz.func263, by kernel_rfl, by kernel_rfl⟩ <|
  allC ⟨_, Tryz.func264, by kernel_rfl, by kernel_rfl⟩ <|
  allC ⟨_, Tryz.func265, by kernel_rfl, by kernel_rfl⟩ <|
  allC ⟨_, Tryz.func266, by kernel_rfl, by kernel_rfl⟩ <|
  allC ⟨_, Tryz.func267, by kernel_rfl, by kernel_rfl⟩ <|
  allC ⟨_, Tryz.func268, by kernel_rfl, by kernel_rfl⟩ <|
  allC ⟨_, Tryz.func27, by kernel_rfl, by kernel_rfl⟩ <|
  allC ⟨_, Tryz.func28, by kernel_rfl, by kernel_rfl⟩ <|
  allC ⟨_, Tryz.func29, by kernel_rfl, by kernel_rfl⟩ <|
  allC ⟨_, Tryz.func41, by kernel_rfl, by kernel_rfl⟩ <|
  allC ⟨_, Tryz.func42, by kernel_rfl, by kernel_rfl⟩ <|
  allC ⟨_, Tryz.func43, by kernel_rfl, by kernel_rfl⟩ <|
  allC ⟨_, Tryz.func44, by kernel_rfl, by kernel_rfl⟩ <|
  allC ⟨_, Tryz.func45, by kernel_rfl, by kernel_rfl⟩ <|
  allC ⟨_, Tryz.func61, by kernel_rfl, by kernel_rfl⟩ <|
  allC ⟨_, Tryz.func63, by kernel_rfl, by kernel_rfl⟩ <|
  allC ⟨_, Tryz.func64, by kernel_rfl, by kernel_rfl⟩ <|
  allC ⟨_, Tryz.func65, by kernel_rfl, by kernel_rfl⟩ <|
  allC ⟨_, Tryz.func66, by kernel_rfl, by kernel_rfl⟩ <|
  allC ⟨_, Tryz.func68, by kernel_rfl, by kernel_rfl⟩ <|
  allC ⟨_, Tryz.func91, by kernel_rfl, by kernel_rfl⟩ <|
  allC ⟨_, Tryz.func99, by kernel_rfl, by kernel_rfl⟩ <|
  allC ⟨_, Tryz.func100, by kernel_rfl, by kernel_rfl⟩ <|
  allC ⟨_, Tryz.func101, by kernel_rfl, by kernel_rfl⟩ <|
  allC ⟨_, Tryz.func102, by kernel_rfl, by kernel_rfl⟩ <|
  allC ⟨_, Tryz.func104, by kernel_rfl, by kernel_rfl⟩ <|
  allC ⟨_, Tryz.func105, by kernel_rfl, by kernel_rfl⟩ <|
  allC ⟨_, Tryz.func106, by kernel_rfl, by kernel_rfl⟩ <|
  allC ⟨_, Tryz.func107, by kernel_rfl, by kernel_rfl⟩ <|
  allC ⟨_, Tryz.func108, by kernel_rfl, by kernel_rfl⟩ <|
  allC ⟨_, Tryz.func114, by kernel_rfl, by kernel_rfl⟩ <|
  allC ⟨_, Tryz.func115, by kernel_rfl, by kernel_rfl⟩ <|
  allC ⟨_, Tryz.func116, by kernel_rfl, by kernel_rfl⟩ <|
  allC ⟨_, Tryz.func117, by kernel_rfl, by kernel_rfl⟩ <|
  allC ⟨_, Tryz.func156, by kernel_rfl, by kernel_rfl⟩ <|
  allC ⟨_, Tryz.func158, by kernel_rfl, by kernel_rfl⟩ <|
  allC ⟨_, Tryz.func159, by kernel_rfl, by kernel_rfl⟩ <|
  allC ⟨_, Tryz.func160, by kernel_rfl, by kernel_rfl⟩ <|
  allC ⟨_, Tryz.func161, by kernel_rfl, by kernel_rfl⟩ <|
  allC ⟨_, Tryz.func162, by kernel_rfl, by kernel_rfl⟩ <|
  allC ⟨_, Tryz.func164, by kernel_rfl, by kernel_rfl⟩ <|
  allC ⟨_, Tryz.func165, by kernel_rfl, by kernel_rfl⟩ <|
  allC ⟨_, Tryz.func167, by kernel_rfl, by kernel_rfl⟩ <|
  allC ⟨_, Tryz.func168, by kernel_rfl, by kernel_rfl⟩ <|
  allC ⟨_, Tryz.func169, by kernel_rfl, by kernel_rfl⟩ <|
  allC ⟨_, Tryz.func170, by kernel_rfl, by kernel_rfl⟩ <|
  allC ⟨_, Tryz.func171, by kernel_rfl, by kernel_rfl⟩ <|
  allC ⟨_, Tryz.func172, by kernel_rfl, by kernel_rfl⟩ <|
  allC ⟨_, Tryz.func173, by kernel_rfl, by kernel_rfl⟩ <|
  allC ⟨_, Tryz.func203, by kernel_rfl, by kernel_rfl⟩ <|
  allC ⟨_, Tryz.func204, by kernel_rfl, by kernel_rfl⟩ <|
  allC ⟨_, Tryz.func205, by kernel_rfl, by kernel_rfl⟩ <|
  allC ⟨_, Tryz.func206, by kernel_rfl, by kernel_rfl⟩ <|
  allC ⟨_, Tryz.func208, by kernel_rfl, by kernel_rfl⟩ <|
  allC ⟨_, Tryz.func209, by kernel_rfl, by kernel_rfl⟩ <|
  allC ⟨_, Tryz.func210, by kernel_rfl, by kernel_rfl⟩ <|
  allC ⟨_, Tryz.func211, by kernel_rfl, by kernel_rfl⟩ <|
  allC ⟨_, Tryz.func212, by kernel_rfl, by kernel_rfl⟩ <|
  allC ⟨_, Tryz.func213, by kernel_rfl, by kernel_rfl⟩ <|
  allC ⟨_, Tryz.func214, by kernel_rfl, by kernel_rfl⟩ <|
  allC ⟨_, Tryz.func215, by kernel_rfl, by kernel_rfl⟩ <|
  allC ⟨_, Tryz.func216, by kernel_rfl, by kernel_rfl⟩ <|
  allC ⟨_, Tryz.func233, by kernel_rfl, by kernel_rfl⟩ <|
  allC ⟨_, Tryz.func235, by kernel_rfl, by kernel_rfl⟩ <|
  allC ⟨_, Tryz.func239, by kernel_rfl, by kernel_rfl⟩ <|
  allC ⟨_, Tryz.func240, by kernel_rfl, by kernel_rfl⟩ <|
  allC ⟨_, Tryz.func241, by kernel_rfl, by kernel_rfl⟩ <|
  allC ⟨_, Tryz.func242, by kernel_rfl, by kernel_rfl⟩ <|
  allC ⟨_, Tryz.func303, by kernel_rfl, by kernel_rfl⟩ <|
  allC ⟨_, Tryz.func2, by kernel_rfl, by kernel_rfl⟩ <|
  allC ⟨_, Tryz.func202, by kernel_rfl, by kernel_rfl⟩ <|
  allN

theorem good : Good Tryz.prog gam := fun g fid h => goodAll (g, fid) (lk_mem gtbl g fid h)

theorem mixed : Tryz.prog.follows .mixedOrders = true := by kernel_rfl

end Go.Proofs.YtnfajbkbmlmdoaaGreatDoor
