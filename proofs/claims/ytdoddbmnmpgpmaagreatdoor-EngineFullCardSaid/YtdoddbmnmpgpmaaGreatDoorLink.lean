/-
  Each clean text is that of the model's function: printed by a program, tested by Lean's kernel.
-/
import Derived.Test.YtdoddbmnmpgpmaaGreatDoorM2
import Derived.Test.YtdoddbmnmpgpmaaGreatDoorS
import Derived.Test.YtdoddbmnmpgpmaaGreatDoorChecked
import Derived.KernelRfl
namespace Go.Proofs.YtdoddbmnmpgpmaaGreatDoor
open Go Go.Cl

def gtbl : List (Nat × Nat) := [
  (428, 3),
  (433, 4),
  (435, 5),
  (438, 6),
  (429, 7),
  (430, 8),
  (432, 9),
  (431, 10),
  (434, 11),
  (436, 12),
  (437, 13),
  (439, 14),
  (441, 15),
  (440, 16),
  (442, 17),
  (443, 18),
  (444, 19),
  (312, 20),
  (445, 21),
  (446, 22),
  (265, 23),
  (447, 24),
  (65, 25),
  (448, 26),
  (52, 27),
  (114, 28),
  (305, 29),
  (306, 30),
  (449, 31),
  (309, 32),
  (310, 33),
  (450, 34),
  (307, 35),
  (316, 36),
  (323, 37),
  (333, 38),
  (55, 39),
  (273, 40),
  (452, 41),
  (451, 42),
  (69, 43),
  (453, 44),
  (111, 46),
  (317, 48),
  (318, 49),
  (319, 50),
  (5, 51),
  (320, 52),
  (321, 53),
  (322, 54),
  (6, 55),
  (48, 56),
  (324, 57),
  (454, 58),
  (345, 59),
  (308, 60),
  (39, 61),
  (30, 63),
  (325, 64),
  (326, 65),
  (327, 66),
  (328, 67),
  (329, 68),
  (330, 69),
  (97, 70),
  (285, 71),
  (286, 72),
  (287, 73),
  (288, 74),
  (455, 75),
  (127, 77),
  (99, 78),
  (335, 80),
  (336, 81),
  (338, 82),
  (337, 83),
  (358, 84),
  (340, 85),
  (339, 86),
  (341, 87),
  (389, 88),
  (366, 89),
  (365, 90),
  (367, 91),
  (17, 92),
  (331, 93),
  (377, 94),
  (36, 95),
  (342, 96),
  (343, 97),
  (43, 98),
  (41, 99),
  (45, 100),
  (344, 101),
  (346, 102),
  (347, 103),
  (348, 104),
  (349, 105),
  (350, 106),
  (351, 107),
  (352, 108),
  (353, 109),
  (124, 110),
  (219, 111),
  (294, 112),
  (295, 113),
  (297, 114),
  (296, 115),
  (235, 116),
  (298, 117),
  (357, 121),
  (359, 122),
  (360, 123),
  (361, 124),
  (362, 125),
  (388, 126),
  (375, 127),
  (56, 128),
  (354, 129),
  (315, 130),
  (355, 131),
  (378, 132),
  (363, 133),
  (356, 134),
  (364, 135),
  (368, 136),
  (369, 137),
  (370, 138),
  (371, 139),
  (372, 140),
  (373, 141),
  (374, 142),
  (143, 144),
  (142, 145),
  (144, 146),
  (146, 147),
  (145, 148),
  (224, 151),
  (225, 152),
  (61, 153),
  (223, 154),
  (301, 155),
  (238, 156),
  (379, 159),
  (380, 160),
  (382, 161),
  (381, 162),
  (410, 163),
  (397, 164),
  (396, 165),
  (384, 166),
  (383, 167),
  (387, 168),
  (386, 169),
  (385, 170),
  (390, 171),
  (391, 172),
  (392, 173),
  (394, 175),
  (414, 178),
  (158, 179),
  (234, 183),
  (398, 189),
  (399, 190),
  (400, 191),
  (401, 192),
  (402, 193),
  (403, 194),
  (404, 195),
  (405, 196),
  (406, 197),
  (407, 198),
  (422, 199),
  (188, 200),
  (424, 201),
  (423, 202),
  (408, 203),
  (409, 204),
  (411, 205),
  (412, 206),
  (415, 207),
  (416, 215),
  (417, 216),
  (418, 217),
  (419, 218),
  (420, 219),
  (421, 220),
  (425, 221),
  (426, 228),
  (136, 45),
  (137, 47),
  (332, 62),
  (152, 76),
  (128, 79),
  (126, 119),
  (167, 120),
  (148, 149),
  (147, 150),
  (151, 157),
  (184, 158),
  (393, 174),
  (395, 176),
  (159, 180),
  (160, 181),
  (161, 182),
  (180, 184),
  (181, 185),
  (182, 186),
  (183, 187),
  (172, 208),
  (173, 209),
  (174, 210),
  (187, 211),
  (189, 212),
  (190, 213),
  (191, 214),
  (201, 222),
  (202, 223),
  (198, 224),
  (192, 226),
  (193, 227),
  (195, 229),
  (216, 259),
  (2, 2),
  (376, 143)]

def ttbl : List (Nat × Nat) := [(0, 160), (4, 5), (5, 108), (6, 9)]

def gam : Gam where
  F := S.lk gtbl
  T := fun t => (S.lk ttbl t).getD 0
  K := [.pin 0 (.ints .u64 [1, 10, 100, 1000, 10000, 100000, 1000000, 10000000, 100000000, 1000000000, 10000000000, 100000000000, 1000000000000, 10000000000000, 100000000000000, 1000000000000000, 10000000000000000, 100000000000000000, 1000000000000000000, 10000000000000000000])]

theorem link438 : funM Tryz.prog gam S.f438 Tryz.f6 = true := by kernel_rfl
theorem link439 : funM Tryz.prog gam S.f439 Tryz.f14 = true := by kernel_rfl
theorem link441 : funM Tryz.prog gam S.f441 Tryz.f15 = true := by kernel_rfl
theorem link440 : funM Tryz.prog gam S.f440 Tryz.f16 = true := by kernel_rfl
theorem link442 : funM Tryz.prog gam S.f442 Tryz.f17 = true := by kernel_rfl
theorem link443 : funM Tryz.prog gam S.f443 Tryz.f18 = true := by kernel_rfl
theorem link444 : funM Tryz.prog gam S.f444 Tryz.f19 = true := by kernel_rfl
theorem link312 : funM Tryz.prog gam S.f312 Tryz.f20 = true := by kernel_rfl
theorem link265 : funM Tryz.prog gam S.f265 Tryz.f23 = true := by kernel_rfl
theorem link65 : funM Tryz.prog gam S.f65 Tryz.f25 = true := by kernel_rfl
theorem link52 : funM Tryz.prog gam S.f52 Tryz.f27 = true := by kernel_rfl
theorem link114 : funM Tryz.prog gam S.f114 Tryz.f28 = true := by kernel_rfl
theorem link305 : funM Tryz.prog gam S.f305 Tryz.f29 = true := by kernel_rfl
theorem link306 : funM Tryz.prog gam S.f306 Tryz.f30 = true := by kernel_rfl
theorem link449 : funM Tryz.prog gam S.f449 Tryz.f31 = true := by kernel_rfl
theorem link309 : funM Tryz.prog gam S.f309 Tryz.f32 = true := by kernel_rfl
theorem link310 : funM Tryz.prog gam S.f310 Tryz.f33 = true := by kernel_rfl
theorem link450 : funM Tryz.prog gam S.f450 Tryz.f34 = true := by kernel_rfl
theorem link307 : funM Tryz.prog gam S.f307 Tryz.f35 = true := by kernel_rfl
theorem link316 : funM Tryz.prog gam S.f316 Tryz.f36 = true := by kernel_rfl
theorem link323 : funM Tryz.prog gam S.f323 Tryz.f37 = true := by kernel_rfl
theorem link333 : funM Tryz.prog gam S.f333 Tryz.f38 = true := by kernel_rfl
theorem link55 : funM Tryz.prog gam S.f55 Tryz.f39 = true := by kernel_rfl
theorem link273 : funM Tryz.prog gam S.f273 Tryz.f40 = true := by kernel_rfl
theorem link111 : funM Tryz.prog gam S.f111 Tryz.f46 = true := by kernel_rfl
theorem link317 : funM Tryz.prog gam S.f317 Tryz.f48 = true := by kernel_rfl
theorem link318 : funM Tryz.prog gam S.f318 Tryz.f49 = true := by kernel_rfl
theorem link319 : funM Tryz.prog gam S.f319 Tryz.f50 = true := by kernel_rfl
theorem link5 : funM Tryz.prog gam S.f5 Tryz.f51 = true := by kernel_rfl
theorem link320 : funM Tryz.prog gam S.f320 Tryz.f52 = true := by kernel_rfl
theorem link322 : funM Tryz.prog gam S.f322 Tryz.f54 = true := by kernel_rfl
theorem link6 : funM Tryz.prog gam S.f6 Tryz.f55 = true := by kernel_rfl
theorem link48 : funM Tryz.prog gam S.f48 Tryz.f56 = true := by kernel_rfl
theorem link324 : funM Tryz.prog gam S.f324 Tryz.f57 = true := by kernel_rfl
theorem link454 : funM Tryz.prog gam S.f454 Tryz.f58 = true := by kernel_rfl
theorem link308 : funM Tryz.prog gam S.f308 Tryz.f60 = true := by kernel_rfl
theorem link39 : funM Tryz.prog gam S.f39 Tryz.f61 = true := by kernel_rfl
theorem link30 : funM Tryz.prog gam S.f30 Tryz.f63 = true := by kernel_rfl
theorem link325 : funM Tryz.prog gam S.f325 Tryz.f64 = true := by kernel_rfl
theorem link326 : funM Tryz.prog gam S.f326 Tryz.f65 = true := by kernel_rfl
theorem link327 : funM Tryz.prog gam S.f327 Tryz.f66 = true := by kernel_rfl
theorem link328 : funM Tryz.prog gam S.f328 Tryz.f67 = true := by kernel_rfl
theorem link97 : funM Tryz.prog gam S.f97 Tryz.f70 = true := by kernel_rfl
theorem link285 : funM Tryz.prog gam S.f285 Tryz.f71 = true := by kernel_rfl
theorem link286 : funM Tryz.prog gam S.f286 Tryz.f72 = true := by kernel_rfl
theorem link287 : funM Tryz.prog gam S.f287 Tryz.f73 = true := by kernel_rfl
theorem link288 : funM Tryz.prog gam S.f288 Tryz.f74 = true := by kernel_rfl
theorem link127 : funM Tryz.prog gam S.f127 Tryz.f77 = true := by kernel_rfl
theorem link99 : funM Tryz.prog gam S.f99 Tryz.f78 = true := by kernel_rfl
theorem link335 : funM Tryz.prog gam S.f335 Tryz.f80 = true := by kernel_rfl
theorem link336 : funM Tryz.prog gam S.f336 Tryz.f81 = true := by kernel_rfl
theorem link338 : funM Tryz.prog gam S.f338 Tryz.f82 = true := by kernel_rfl
theorem link337 : funM Tryz.prog gam S.f337 Tryz.f83 = true := by kernel_rfl
theorem link358 : funM Tryz.prog gam S.f358 Tryz.f84 = true := by kernel_rfl
theorem link340 : funM Tryz.prog gam S.f340 Tryz.f85 = true := by kernel_rfl
theorem link339 : funM Tryz.prog gam S.f339 Tryz.f86 = true := by kernel_rfl
theorem link17 : funM Tryz.prog gam S.f17 Tryz.f92 = true := by kernel_rfl
theorem link331 : funM Tryz.prog gam S.f331 Tryz.f93 = true := by kernel_rfl
theorem link36 : funM Tryz.prog gam S.f36 Tryz.f95 = true := by kernel_rfl
theorem link342 : funM Tryz.prog gam S.f342 Tryz.f96 = true := by kernel_rfl
theorem link43 : funM Tryz.prog gam S.f43 Tryz.f98 = true := by kernel_rfl
theorem link41 : funM Tryz.prog gam S.f41 Tryz.f99 = true := by kernel_rfl
theorem link45 : funM Tryz.prog gam S.f45 Tryz.f100 = true := by kernel_rfl
theorem link344 : funM Tryz.prog gam S.f344 Tryz.f101 = true := by kernel_rfl
theorem link219 : funM Tryz.prog gam S.f219 Tryz.f111 = true := by kernel_rfl
theorem link294 : funM Tryz.prog gam S.f294 Tryz.f112 = true := by kernel_rfl
theorem link295 : funM Tryz.prog gam S.f295 Tryz.f113 = true := by kernel_rfl
theorem link297 : funM Tryz.prog gam S.f297 Tryz.f114 = true := by kernel_rfl
theorem link296 : funM Tryz.prog gam S.f296 Tryz.f115 = true := by kernel_rfl
theorem link235 : funM Tryz.prog gam S.f235 Tryz.f116 = true := by kernel_rfl
theorem link357 : funM Tryz.prog gam S.f357 Tryz.f121 = true := by kernel_rfl
theorem link359 : funM Tryz.prog gam S.f359 Tryz.f122 = true := by kernel_rfl
theorem link360 : funM Tryz.prog gam S.f360 Tryz.f123 = true := by kernel_rfl
theorem link361 : funM Tryz.prog gam S.f361 Tryz.f124 = true := by kernel_rfl
theorem link362 : funM Tryz.prog gam S.f362 Tryz.f125 = true := by kernel_rfl
theorem link354 : funM Tryz.prog gam S.f354 Tryz.f129 = true := by kernel_rfl
theorem link363 : funM Tryz.prog gam S.f363 Tryz.f133 = true := by kernel_rfl
theorem link356 : funM Tryz.prog gam S.f356 Tryz.f134 = true := by kernel_rfl
theorem link364 : funM Tryz.prog gam S.f364 Tryz.f135 = true := by kernel_rfl
theorem link224 : funM Tryz.prog gam S.f224 Tryz.f151 = true := by kernel_rfl
theorem link223 : funM Tryz.prog gam S.f223 Tryz.f154 = true := by kernel_rfl
theorem link301 : funM Tryz.prog gam S.f301 Tryz.f155 = true := by kernel_rfl
theorem link238 : funM Tryz.prog gam S.f238 Tryz.f156 = true := by kernel_rfl
theorem link379 : funM Tryz.prog gam S.f379 Tryz.f159 = true := by kernel_rfl
theorem link382 : funM Tryz.prog gam S.f382 Tryz.f161 = true := by kernel_rfl
theorem link381 : funM Tryz.prog gam S.f381 Tryz.f162 = true := by kernel_rfl
theorem link384 : funM Tryz.prog gam S.f384 Tryz.f166 = true := by kernel_rfl
theorem link399 : funM Tryz.prog gam S.f399 Tryz.f190 = true := by kernel_rfl
theorem link188 : funM Tryz.prog gam S.f188 Tryz.f200 = true := by kernel_rfl
theorem link408 : funM Tryz.prog gam S.f408 Tryz.f203 = true := by kernel_rfl

theorem lk_mem {α : Type} : ∀ (l : List (Nat × α)) (i : Nat) (v : α), S.lk l i = some v → (i, v) ∈ l
  | [], i, v, h => by cases h
  | (k, u) :: r, i, v, h => by
    unfold S.lk at h
    cases hb : Nat.beq i k with
    | true =>
      rw [hb] at h
      have := Nat.eq_of_beq_eq_true hb
      subst this
      cases h
      exact List.mem_cons_self
    | false => rw [hb] at h; exact List.mem_cons_of_mem _ (lk_mem r i v h)

theorem lkYes {g fid : Nat} {sf : SFunc} {fn : Func} (h1 : S.pg g = some sf) (h2 : Tryz.prog.funcs[fid]? = some fn) (h3 : funM Tryz.prog gam sf fn = true) : ∀ sf', S.pg g = some sf' → ∃ fn, Tryz.prog.funcs[fid]? = some fn ∧ funM Tryz.prog gam sf' fn = true :=
  fun sf' h => by rw [h1] at h; cases h; exact ⟨fn, h2, h3⟩
theorem lkNo {g fid : Nat} (h1 : S.pg g = none) : ∀ sf', S.pg g = some sf' → ∃ fn, Tryz.prog.funcs[fid]? = some fn ∧ funM Tryz.prog gam sf' fn = true :=
  fun sf' h => by rw [h1] at h; cases h
theorem allN {p : Nat × Nat → Prop} : ∀ x ∈ ([] : List (Nat × Nat)), p x := fun _ h => by cases h
theorem allC {p : Nat × Nat → Prop} {a : Nat × Nat} {l : List (Nat × Nat)} (h : p a) (k : ∀ x ∈ l, p x) : ∀ x ∈ a :: l, p x := fun x hx => by
  rcases List.mem_cons.1 hx with rfl | hx
  · exact h
  · exact k x hx

set_option maxRecDepth 100000 in
theorem linkedAll : ∀ x ∈ gtbl, ∀ sf', S.pg x.1 = some sf' → ∃ fn, Tryz.prog.funcs[x.2]? = some fn ∧ funM Tryz.prog gam sf' fn = true :=
  allC (lkNo rfl) <|
  allC (lkNo rfl) <|
  allC (lkNo rfl) <|
  allC (lkYes S.pg438 Tryz.func6 link438) <|
  allC (lkNo rfl) <|
  allC (lkNo rfl) <|
  allC (lkNo rfl) <|
  allC (lkNo rfl) <|
  allC (lkNo rfl) <|
  allC (lkNo rfl) <|
  allC (lkNo rfl) <|
  allC (lkYes S.pg439 Tryz.func14 link439) <|
  allC (lkYes S.pg441 Tryz.func15 link441) <|
  allC (lkYes S.pg440 Tryz.func16 link440) <|
  allC (lkYes S.pg442 Tryz.func17 link442) <|
  allC (lkYes S.pg443 Tryz.func18 link443) <|
  allC (lkYes S.pg444 Tryz.func19 link444) <|
  allC (lkYes S.pg312 Tryz.func20 link312) <|
  allC (lkNo rfl) <|
  allC (lkNo rfl) <|
  allC (lkYes S.pg265 Tryz.func23 link265) <|
  allC (lkNo rfl) <|
  allC (lkYes S.pg65 Tryz.func25 link65) <|
  allC (lkNo rfl) <|
  allC (lkYes S.pg52 Tryz.func27 link52) <|
  allC (lkYes S.pg114 Tryz.func28 link114) <|
  allC (lkYes S.pg305 Tryz.func29 link305) <|
  allC (lkYes S.pg306 Tryz.func30 link306) <|
  allC (lkYes S.pg449 Tryz.func31 link449) <|
  allC (lkYes S.pg309 Tryz.func32 link309) <|
  allC (lkYes S.pg310 Tryz.func33 link310) <|
  allC (lkYes S.pg450 Tryz.func34 link450) <|
  allC (lkYes S.pg307 Tryz.func35 link307) <|
  allC (lkYes S.pg316 Tryz.func36 link316) <|
  allC (lkYes S.pg323 Tryz.func37 link323) <|
  allC (lkYes S.pg333 Tryz.func38 link333) <|
  allC (lkYes S.pg55 Tryz.func39 link55) <|
  allC (lkYes S.pg273 Tryz.func40 link273) <|
  allC (lkNo rfl) <|
  allC (lkNo rfl) <|
  allC (lkNo rfl) <|
  allC (lkNo rfl) <|
  allC (lkYes S.pg111 Tryz.func46 link111) <|
  allC (lkYes S.pg317 Tryz.func48 link317) <|
  allC (lkYes S.pg318 Tryz.func49 link318) <|
  allC (lkYes S.pg319 Tryz.func50 link319) <|
  allC (lkYes S.pg5 Tryz.func51 link5) <|
  allC (lkYes S.pg320 Tryz.func52 link320) <|
  allC (lkNo rfl) <|
  allC (lkYes S.pg322 Tryz.func54 link322) <|
  allC (lkYes S.pg6 Tryz.func55 link6) <|
  allC (lkYes S.pg48 Tryz.func56 link48) <|
  allC (lkYes S.pg324 Tryz.func57 link324) <|
  allC (lkYes S.pg454 Tryz.func58 link454) <|
  allC (lkNo rfl) <|
  allC (lkYes S.pg308 Tryz.func60 link308) <|
  allC (lkYes S.pg39 Tryz.func61 link39) <|
  allC (lkYes S.pg30 Tryz.func63 link30) <|
  allC (lkYes S.pg325 Tryz.func64 link325) <|
  allC (lkYes S.pg326 Tryz.func65 link326) <|
  allC (lkYes S.pg327 Tryz.func66 link327) <|
  allC (lkYes S.pg328 Tryz.func67 link328) <|
  allC (lkNo rfl) <|
  allC (lkNo rfl) <|
  allC (lkYes S.pg97 Tryz.func70 link97) <|
  allC (lkYes S.pg285 Tryz.func71 link285) <|
  allC (lkYes S.pg286 Tryz.func72 link286) <|
  allC (lkYes S.pg287 Tryz.func73 link287) <|
  allC (lkYes S.pg288 Tryz.func74 link288) <|
  allC (lkNo rfl) <|
  allC (lkYes S.pg127 Tryz.func77 link127) <|
  allC (lkYes S.pg99 Tryz.func78 link99) <|
  allC (lkYes S.pg335 Tryz.func80 link335) <|
  allC (lkYes S.pg336 Tryz.func81 link336) <|
  allC (lkYes S.pg338 Tryz.func82 link338) <|
  allC (lkYes S.pg337 Tryz.func83 link337) <|
  allC (lkYes S.pg358 Tryz.func84 link358) <|
  allC (lkYes S.pg340 Tryz.func85 link340) <|
  allC (lkYes S.pg339 Tryz.func86 link339) <|
  allC (lkNo rfl) <|
  allC (lkNo rfl) <|
  allC (lkNo rfl) <|
  allC (lkNo rfl) <|
  allC (lkNo rfl) <|
  allC (lkYes S.pg17 Tryz.func92 link17) <|
  allC (lkYes S.pg331 Tryz.func93 link331) <|
  allC (lkNo rfl) <|
  allC (lkYes S.pg36 Tryz.func95 link36) <|
  allC (lkYes S.pg342 Tryz.func96 link342) <|
  allC (lkNo rfl) <|
  allC (lkYes S.pg43 Tryz.func98 link43) <|
  allC (lkYes S.pg41 Tryz.func99 link41) <|
  allC (lkYes S.pg45 Tryz.func100 link45) <|
  allC (lkYes S.pg344 Tryz.func101 link344) <|
  allC (lkNo rfl) <|
  allC (lkNo rfl) <|
  allC (lkNo rfl) <|
  allC (lkNo rfl) <|
  allC (lkNo rfl) <|
  allC (lkNo rfl) <|
  allC (lkNo rfl) <|
  allC (lkNo rfl) <|
  allC (lkNo rfl) <|
  allC (lkYes S.pg219 Tryz.func111 link219) <|
  allC (lkYes S.pg294 Tryz.func112 link294) <|
  allC (lkYes S.pg295 Tryz.func113 link295) <|
  allC (lkYes S.pg297 Tryz.func114 link297) <|
  allC (lkYes S.pg296 Tryz.func115 link296) <|
  allC (lkYes S.pg235 Tryz.func116 link235) <|
  allC (lkNo rfl) <|
  allC (lkYes S.pg357 Tryz.func121 link357) <|
  allC (lkYes S.pg359 Tryz.func122 link359) <|
  allC (lkYes S.pg360 Tryz.func123 link360) <|
  allC (lkYes S.pg361 Tryz.func124 link361) <|
  allC (lkYes S.pg362 Tryz.func125 link362) <|
  allC (lkNo rfl) <|
  allC (lkNo rfl) <|
  allC (lkNo rfl) <|
  allC (lkYes S.pg354 Tryz.func129 link354) <|
  allC (lkNo rfl) <|
  allC (lkNo rfl) <|
  allC (lkNo rfl) <|
  allC (lkYes S.pg363 Tryz.func133 link363) <|
  allC (lkYes S.pg356 Tryz.func134 link356) <|
  allC (lkYes S.pg364 Tryz.func135 link364) <|
  allC (lkNo rfl) <|
  allC (lkNo rfl) <|
  allC (lkNo rfl) <|
  allC (lkNo rfl) <|
  allC (lkNo rfl) <|
  allC (lkNo rfl) <|
  allC (lkNo rfl) <|
  allC (lkNo rfl) <|
  allC (lkNo rfl) <|
  allC (lkNo rfl) <|
  allC (lkNo rfl) <|
  allC (lkNo rfl) <|
  allC (lkYes S.pg224 Tryz.func151 link224) <|
  allC (lkNo rfl) <|
  allC (lkNo rfl) <|
  allC (lkYes S.pg223 Tryz.func154 link223) <|
  allC (lkYes S.pg301 Tryz.func155 link301) <|
  allC (lkYes S.pg238 Tryz.func156 link238) <|
  allC (lkYes S.pg379 Tryz.func159 link379) <|
  allC (lkNo rfl) <|
  allC (lkYes S.pg382 Tryz.func161 link382) <|
  allC (lkYes S.pg381 Tryz.func162 link381) <|
  allC (lkNo rfl) <|
  allC (lkNo rfl) <|
  allC (lkNo rfl) <|
  allC (lkYes S.pg384 Tryz.func166 link384) <|
  allC (lkNo rfl) <|
  allC (lkNo rfl) <|
  allC (lkNo rfl) <|
  allC (lkNo rfl) <|
  allC (lkNo rfl) <|
  allC (lkNo rfl) <|
  allC (lkNo rfl) <|
  allC (lkNo rfl) <|
  allC (lkNo rfl) <|
  allC (lkNo rfl) <|
  allC (lkNo rfl) <|
  allC (lkNo rfl) <|
  allC (lkYes S.pg399 Tryz.func190 link399) <|
  allC (lkNo rfl) <|
  allC (lkNo rfl) <|
  allC (lkNo rfl) <|
  allC (lkNo rfl) <|
  allC (lkNo rfl) <|
  allC (lkNo rfl) <|
  allC (lkNo rfl) <|
  allC (lkNo rfl) <|
  allC (lkNo rfl) <|
  allC (lkYes S.pg188 Tryz.func200 link188) <|
  allC (lkNo rfl) <|
  allC (lkNo rfl) <|
  allC (lkYes S.pg408 Tryz.func203 link408) <|
  allC (lkNo rfl) <|
  allC (lkNo rfl) <|
  allC (lkNo rfl) <|
  allC (lkNo rfl) <|
  allC (lkNo rfl) <|
  allC (lkNo rfl) <|
  allC (lkNo rfl) <|
  allC (lkNo rfl) <|
  allC (lkNo rfl) <|
  allC (lkNo rfl) <|
  allC (lkNo rfl) <|
  allC (lkNo rfl) <|
  allC (lkNo rfl) <|
  allC (lkNo rfl) <|
  allC (lkNo rfl) <|
  allC (lkNo rfl) <|
  allC (lkNo rfl) <|
  allC (lkNo rfl) <|
  allC (lkNo rfl) <|
  allC (lkNo rfl) <|
  allC (lkNo rfl) <|
  allC (lkNo rfl) <|
  allC (lkNo rfl) <|
  allC (lkNo rfl) <|
  allC (lkNo rfl) <|
  allC (lkNo rfl) <|
  allC (lkNo rfl) <|
  allC (lkNo rfl) <|
  allC (lkNo rfl) <|
  allC (lkNo rfl) <|
  allC (lkNo rfl) <|
  allC (lkNo rfl) <|
  allC (lkNo rfl) <|
  allC (lkNo rfl) <|
  allC (lkNo rfl) <|
  allC (lkNo rfl) <|
  allC (lkNo rfl) <|
  allC (lkNo rfl) <|
  allC (lkNo rfl) <|
  allC (lkNo rfl) <|
  allC (lkNo rfl) <|
  allC (lkNo rfl) <|
  allC (lkNo rfl) <|
  allC (lkNo rfl) <|
  allC (lkNo rfl) <|
  allC (lkNo rfl) <|
  allC (lkNo rfl) <|
  allC (lkNo rfl) <|
  allN

theorem linked : Linked Tryz.prog gam S.pg := fun f fid hf sf hs => linkedAll (f, fid) (lk_mem gtbl f fid hf) sf hs

set_option maxRecDepth 100000 in
theorem goodAll : ∀ x ∈ gtbl, ∃ fn, Tryz.prog.funcs[x.2]? = some fn ∧ fn.body.isNone = false ∧ (fn.name == "runtime.NumGoroutine") = false :=
  allC ⟨_, Tryz.func3, by kernel_rfl, by kernel_rfl⟩ <|
  allC ⟨_, Tryz.func4, by kernel_rfl, by kernel_rfl⟩ <|
  allC ⟨_, Tryz.func5, by kernel_rfl, by kernel_rfl⟩ <|
  allC ⟨_, Tryz.func6, by kernel_rfl, by kernel_rfl⟩ <|
  allC ⟨_, Tryz.func7, by kernel_rfl, by kernel_rfl⟩ <|
  allC ⟨_, Tryz.func8, by kernel_rfl, by kernel_rfl⟩ <|
  allC ⟨_, Tryz.func9, by kernel_rfl, by kernel_rfl⟩ <|
  allC ⟨_, Tryz.func10, by kernel_rfl, by kernel_rfl⟩ <|
  allC ⟨_, Tryz.func11, by kernel_rfl, by kernel_rfl⟩ <|
  allC ⟨_, Tryz.func12, by kernel_rfl, by kernel_rfl⟩ <|
  allC ⟨_, Tryz.func13, by kernel_rfl, by kernel_rfl⟩ <|
  allC ⟨_, Tryz.func14, by kernel_rfl, by kernel_rfl⟩ <|
  allC ⟨_, Tryz.func15, by kernel_rfl, by kernel_rfl⟩ <|
  allC ⟨_, Tryz.func16, by kernel_rfl, by kernel_rfl⟩ <|
  allC ⟨_, Tryz.func17, by kernel_rfl, by kernel_rfl⟩ <|
  allC ⟨_, Tryz.func18, by kernel_rfl, by kernel_rfl⟩ <|
  allC ⟨_, Tryz.func19, by kernel_rfl, by kernel_rfl⟩ <|
  allC ⟨_, Tryz.func20, by kernel_rfl, by kernel_rfl⟩ <|
  allC ⟨_, Tryz.func21, by kernel_rfl, by kernel_rfl⟩ <|
  allC ⟨_, Tryz.func22, by kernel_rfl, by kernel_rfl⟩ <|
  allC ⟨_, Tryz.func23, by kernel_rfl, by kernel_rfl⟩ <|
  allC ⟨_, Tryz.func24, by kernel_rfl, by kernel_rfl⟩ <|
  allC ⟨_, Tryz.func25, by kernel_rfl, by kernel_rfl⟩ <|
  allC ⟨_, Tryz.func26, by kernel_rfl, by kernel_rfl⟩ <|
  allC ⟨_, Tryz.func27, by kernel_rfl, by kernel_rfl⟩ <|
  allC ⟨_, Tryz.func28, by kernel_rfl, by kernel_rfl⟩ <|
  allC ⟨_, Tryz.func29, by kernel_rfl, by kernel_rfl⟩ <|
  allC ⟨_, Tryz.func30, by kernel_rfl, by kernel_rfl⟩ <|
  allC ⟨_, Tryz.func31, by kernel_rfl, by kernel_rfl⟩ <|
  allC ⟨_, Tryz.func32, by kernel_rfl, by kernel_rfl⟩ <|
  allC ⟨_, Tryz.func33, by kernel_rfl, by kernel_rfl⟩ <|
  allC ⟨_, Tryz.func34, by kernel_rfl, by kernel_rfl⟩ <|
  allC ⟨_, Tryz.func35, by kernel_rfl, by kernel_rfl⟩ <|
  allC ⟨_, Tryz.func36, by kernel_rfl, by kernel_rfl⟩ <|
  allC ⟨_, Tryz.func37, by kernel_rfl, by kernel_rfl⟩ <|
  allC ⟨_, Tryz.func38, by kernel_rfl, by kernel_rfl⟩ <|
  allC ⟨_, Tryz.func39, by kernel_rfl, by kernel_rfl⟩ <|
  allC ⟨_, Tryz.func40, by kernel_rfl, by kernel_rfl⟩ <|
  allC ⟨_, Tryz.func41, by kernel_rfl, by kernel_rfl⟩ <|
  allC ⟨_, Tryz.func42, by kernel_rfl, by kernel_rfl⟩ <|
  allC ⟨_, Tryz.func43, by kernel_rfl, by kernel_rfl⟩ <|
  allC ⟨_, Tryz.func44, by kernel_rfl, by kernel_rfl⟩ <|
  allC ⟨_, Tryz.func46, by kernel_rfl, by kernel_rfl⟩ <|
  allC ⟨_, Tryz.func48, by kernel_rfl, by kernel_rfl⟩ <|
  allC ⟨_, Tryz.func49, by kernel_rfl, by kernel_rfl⟩ <|
  allC ⟨_, Tryz.func50, by kernel_rfl, by kernel_rfl⟩ <|
  allC ⟨_, Tryz.func51, by kernel_rfl, by kernel_rfl⟩ <|
  allC ⟨_, Tryz.func52, by kernel_rfl, by kernel_rfl⟩ <|
  allC ⟨_, Tryz.func53, by kernel_rfl, by kernel_rfl⟩ <|
  allC ⟨_, Tryz.func54, by kernel_rfl, by kernel_rfl⟩ <|
  allC ⟨_, Tryz.func55, by kernel_rfl, by kernel_rfl⟩ <|
  allC ⟨_, Tryz.func56, by kernel_rfl, by kernel_rfl⟩ <|
  allC ⟨_, Tryz.func57, by kernel_rfl, by kernel_rfl⟩ <|
  allC ⟨_, Tryz.func58, by kernel_rfl, by kernel_rfl⟩ <|
  allC ⟨_, Tryz.func59, by kernel_rfl, by kernel_rfl⟩ <|
  allC ⟨_, Tryz.func60, by kernel_rfl, by kernel_rfl⟩ <|
  allC ⟨_, Tryz.func61, by kernel_rfl, by kernel_rfl⟩ <|
  allC ⟨_, Tryz.func63, by kernel_rfl, by kernel_rfl⟩ <|
  allC ⟨_, Tryz.func64, by kernel_rfl, by kernel_rfl⟩ <|
  allC ⟨_, Tryz.func65, by kernel_rfl, by kernel_rfl⟩ <|
  allC ⟨_, Tryz.func66, by kernel_rfl, by kernel_rfl⟩ <|
  allC ⟨_, Tryz.func67, by kernel_rfl, by kernel_rfl⟩ <|
  allC ⟨_, Tryz.func68, by kernel_rfl, by kernel_rfl⟩ <|
  allC ⟨_, Tryz.func69, by kernel_rfl, by kernel_rfl⟩ <|
  allC ⟨_, Tryz.func70, by kernel_rfl, by kernel_rfl⟩ <|
  allC ⟨_, Tryz.func71, by kernel_rfl, by kernel_rfl⟩ <|
  allC ⟨_, Tryz.func72, by kernel_rfl, by kernel_rfl⟩ <|
  allC ⟨_, Tryz.func73, by kernel_rfl, by kernel_rfl⟩ <|
  allC ⟨_, Tryz.func74, by kernel_rfl, by kernel_rfl⟩ <|
  allC ⟨_, Tryz.func75, by kernel_rfl, by kernel_rfl⟩ <|
  allC ⟨_, Tryz.func77, by kernel_rfl, by kernel_rfl⟩ <|
  allC ⟨_, Tryz.func78, by kernel_rfl, by kernel_rfl⟩ <|
  allC ⟨_, Tryz.func80, by kernel_rfl, by kernel_rfl⟩ <|
  allC ⟨_, Tryz.func81, by kernel_rfl, by kernel_rfl⟩ <|
  allC ⟨_, Tryz.func82, by kernel_rfl, by kernel_rfl⟩ <|
  allC ⟨_, Tryz.func83, by kernel_rfl, by kernel_rfl⟩ <|
  allC ⟨_, Tryz.func84, by kernel_rfl, by kernel_rfl⟩ <|
  allC ⟨_, Tryz.func85, by kernel_rfl, by kernel_rfl⟩ <|
  allC ⟨_, Tryz.func86, by kernel_rfl, by kernel_rfl⟩ <|
  allC ⟨_, Tryz.func87, by kernel_rfl, by kernel_rfl⟩ <|
  allC ⟨_, Tryz.func88, by kernel_rfl, by kernel_rfl⟩ <|
  allC ⟨_, Tryz.func89, by kernel_rfl, by kernel_rfl⟩ <|
  allC ⟨_, Tryz.func90, by kernel_rfl, by kernel_rfl⟩ <|
  allC ⟨_, Tryz.func91, by kernel_rfl, by kernel_rfl⟩ <|
  allC ⟨_, Tryz.func92, by kernel_rfl, by kernel_rfl⟩ <|
  allC ⟨_, Tryz.func93, by kernel_rfl, by kernel_rfl⟩ <|
  allC ⟨_, Tryz.func94, by kernel_rfl, by kernel_rfl⟩ <|
  allC ⟨_, Tryz.func95, by kernel_rfl, by kernel_rfl⟩ <|
  allC ⟨_, Tryz.func96, by kernel_rfl, by kernel_rfl⟩ <|
  allC ⟨_, Tryz.func97, by kernel_rfl, by kernel_rfl⟩ <|
  allC ⟨_, Tryz.func98, by kernel_rfl, by kernel_rfl⟩ <|
  allC ⟨_, Tryz.func99, by kernel_rfl, by kernel_rfl⟩ <|
  allC ⟨_, Tryz.func100, by kernel_rfl, by kernel_rfl⟩ <|
  allC ⟨_, Tryz.func101, by kernel_rfl, by kernel_rfl⟩ <|
  allC ⟨_, Tryz.func102, by kernel_rfl, by kernel_rfl⟩ <|
  allC ⟨_, Tryz.func103, by kernel_rfl, by kernel_rfl⟩ <|
  allC ⟨_, Tryz.func104, by kernel_rfl, by kernel_rfl⟩ <|
  allC ⟨_, Tryz.func105, by kernel_rfl, by kernel_rfl⟩ <|
  allC ⟨_, Tryz.func106, by kernel_rfl, by kernel_rfl⟩ <|
  allC ⟨_, Tryz.func107, by kernel_rfl, by kernel_rfl⟩ <|
  allC ⟨_, Tryz.func108, by kernel_rfl, by kernel_rfl⟩ <|
  allC ⟨_, Tryz.func109, by kernel_rfl, by kernel_rfl⟩ <|
  allC ⟨_, Tryz.func110, by kernel_rfl, by kernel_rfl⟩ <|
  allC ⟨_, Tryz.func111, by kernel_rfl, by kernel_rfl⟩ <|
  allC ⟨_, Tryz.func112, by kernel_rfl, by kernel_rfl⟩ <|
  allC ⟨_, Tryz.func113, by kernel_rfl, by kernel_rfl⟩ <|
  allC ⟨_, Tryz.func114, by kernel_rfl, by kernel_rfl⟩ <|
  allC ⟨_, Tryz.func115, by kernel_rfl, by kernel_rfl⟩ <|
  allC ⟨_, Tryz.func116, by kernel_rfl, by kernel_rfl⟩ <|
  allC ⟨_, Tryz.func117, by kernel_rfl, by kernel_rfl⟩ <|
  allC ⟨_, Tryz.func121, by kernel_rfl, by kernel_rfl⟩ <|
  allC ⟨_, Tryz.func122, by kernel_rfl, by kernel_rfl⟩ <|
  allC ⟨_, Tryz.func123, by kernel_rfl, by kernel_rfl⟩ <|
  allC ⟨_, Tryz.func124, by kernel_rfl, by kernel_rfl⟩ <|
  allC ⟨_, Tryz.func125, by kernel_rfl, by kernel_rfl⟩ <|
  allC ⟨_, Tryz.func126, by kernel_rfl, by kernel_rfl⟩ <|
  allC ⟨_, Tryz.func127, by kernel_rfl, by kernel_rfl⟩ <|
  allC ⟨_, Tryz.func128, by kernel_rfl, by kernel_rfl⟩ <|
  allC ⟨_, Tryz.func129, by kernel_rfl, by kernel_rfl⟩ <|
  allC ⟨_, Tryz.func130, by kernel_rfl, by kernel_rfl⟩ <|
  allC ⟨_, Tryz.func131, by kernel_rfl, by kernel_rfl⟩ <|
  allC ⟨_, Tryz.func132, by kernel_rfl, by kernel_rfl⟩ <|
  allC ⟨_, Tryz.func133, by kernel_rfl, by kernel_rfl⟩ <|
  allC ⟨_, Tryz.func134, by kernel_rfl, by kernel_rfl⟩ <|
  allC ⟨_, Tryz.func135, by kernel_rfl, by kernel_rfl⟩ <|
  allC ⟨_, Tryz.func136, by kernel_rfl, by kernel_rfl⟩ <|
  allC ⟨_, Tryz.func137, by kernel_rfl, by kernel_rfl⟩ <|
  allC ⟨_, Tryz.func138, by kernel_rfl, by kernel_rfl⟩ <|
  allC ⟨_, Tryz.func139, by kernel_rfl, by kernel_rfl⟩ <|
  allC ⟨_, Tryz.func140, by kernel_rfl, by kernel_rfl⟩ <|
  allC ⟨_, Tryz.func141, by kernel_rfl, by kernel_rfl⟩ <|
  allC ⟨_, Tryz.func142, by kernel_rfl, by kernel_rfl⟩ <|
  allC ⟨_, Tryz.func144, by kernel_rfl, by kernel_rfl⟩ <|
  allC ⟨_, Tryz.func145, by kernel_rfl, by kernel_rfl⟩ <|
  allC ⟨_, Tryz.func146, by kernel_rfl, by kernel_rfl⟩ <|
  allC ⟨_, Tryz.func147, by kernel_rfl, by kernel_rfl⟩ <|
  allC ⟨_, Tryz.func148, by kernel_rfl, by kernel_rfl⟩ <|
  allC ⟨_, Tryz.func151, by kernel_rfl, by kernel_rfl⟩ <|
  allC ⟨_, Tryz.func152, by kernel_rfl, by kernel_rfl⟩ <|
  allC ⟨_, Tryz.func153, by kernel_rfl, by kernel_rfl⟩ <|
  allC ⟨_, Tryz.func154, by kernel_rfl, by kernel_rfl⟩ <|
  allC ⟨_, Tryz.func155, by kernel_rfl, by kernel_rfl⟩ <|
  allC ⟨_, Tryz.func156, by kernel_rfl, by kernel_rfl⟩ <|
  allC ⟨_, Tryz.func159, by kernel_rfl, by kernel_rfl⟩ <|
  allC ⟨_, Tryz.func160, by kernel_rfl, by kernel_rfl⟩ <|
  allC ⟨_, Tryz.func161, by kernel_rfl, by kernel_rfl⟩ <|
  allC ⟨_, Tryz.func162, by kernel_rfl, by kernel_rfl⟩ <|
  allC ⟨_, Tryz.func163, by kernel_rfl, by kernel_rfl⟩ <|
  allC ⟨_, Tryz.func164, by kernel_rfl, by kernel_rfl⟩ <|
  allC ⟨_, Tryz.func165, by kernel_rfl, by kernel_rfl⟩ <|
  allC ⟨_, Tryz.func166, by kernel_rfl, by kernel_rfl⟩ <|
  allC ⟨_, Tryz.func167, by kernel_rfl, by kernel_rfl⟩ <|
  allC ⟨_, Tryz.func168, by kernel_rfl, by kernel_rfl⟩ <|
  allC ⟨_, Tryz.func169, by kernel_rfl, by kernel_rfl⟩ <|
  allC ⟨_, Tryz.func170, by kernel_rfl, by kernel_rfl⟩ <|
  allC ⟨_, Tryz.func171, by kernel_rfl, by kernel_rfl⟩ <|
  allC ⟨_, Tryz.func172, by kernel_rfl, by kernel_rfl⟩ <|
  allC ⟨_, Tryz.func173, by kernel_rfl, by kernel_rfl⟩ <|
  allC ⟨_, Tryz.func175, by kernel_rfl, by kernel_rfl⟩ <|
  allC ⟨_, Tryz.func178, by kernel_rfl, by kernel_rfl⟩ <|
  allC ⟨_, Tryz.func179, by kernel_rfl, by kernel_rfl⟩ <|
  allC ⟨_, Tryz.func183, by kernel_rfl, by kernel_rfl⟩ <|
  allC ⟨_, Tryz.func189, by kernel_rfl, by kernel_rfl⟩ <|
  allC ⟨_, Tryz.func190, by kernel_rfl, by kernel_rfl⟩ <|
  allC ⟨_, Tryz.func191, by kernel_rfl, by kernel_rfl⟩ <|
  allC ⟨_, Tryz.func192, by kernel_rfl, by kernel_rfl⟩ <|
  allC ⟨_, Tryz.func193, by kernel_rfl, by kernel_rfl⟩ <|
  allC ⟨_, Tryz.func194, by kernel_rfl, by kernel_rfl⟩ <|
  allC ⟨_, Tryz.func195, by kernel_rfl, by kernel_rfl⟩ <|
  allC ⟨_, Tryz.func196, by kernel_rfl, by kernel_rfl⟩ <|
  allC ⟨_, Tryz.func197, by kernel_rfl, by kernel_rfl⟩ <|
  allC ⟨_, Tryz.func198, by kernel_rfl, by kernel_rfl⟩ <|
  allC ⟨_, Tryz.func199, by kernel_rfl, by kernel_rfl⟩ <|
  allC ⟨_, Tryz.func200, by kernel_rfl, by kernel_rfl⟩ <|
  allC ⟨_, Tryz.func201, by kernel_rfl, by kernel_rfl⟩ <|
  allC ⟨_, Tryz.func202, by kernel_rfl, by kernel_rfl⟩ <|
  allC ⟨_, Tryz.func203, by kernel_rfl, by kernel_rfl⟩ <|
  allC ⟨_, Tryz.func204, by kernel_rfl, by kernel_rfl⟩ <|
  allC ⟨_, Tryz.func205, by kernel_rfl, by kernel_rfl⟩ <|
  allC ⟨_, Tryz.func206, by kernel_rfl, by kernel_rfl⟩ <|
  allC ⟨_, Tryz.func207, by kernel_rfl, by kernel_rfl⟩ <|
  allC ⟨_, Tryz.func215, by kernel_rfl, by kernel_rfl⟩ <|
  allC ⟨_, Tryz.func216, by kernel_rfl, by kernel_rfl⟩ <|
  allC ⟨_, Tryz.func217, by kernel_rfl, by kernel_rfl⟩ <|
  allC ⟨_, Tryz.func218, by kernel_rfl, by kernel_rfl⟩ <|
  allC ⟨_, Tryz.func219, by kernel_rfl, by kernel_rfl⟩ <|
  allC ⟨_, Tryz.func220, by kernel_rfl, by kernel_rfl⟩ <|
  allC ⟨_, Tryz.func221, by kernel_rfl, by kernel_rfl⟩ <|
  allC ⟨_, Tryz.func228, by kernel_rfl, by kernel_rfl⟩ <|
  allC ⟨_, Tryz.func45, by kernel_rfl, by kernel_rfl⟩ <|
  allC ⟨_, Tryz.func47, by kernel_rfl, by kernel_rfl⟩ <|
  allC ⟨_, Tryz.func62, by kernel_rfl, by kernel_rfl⟩ <|
  allC ⟨_, Tryz.func76, by kernel_rfl, by kernel_rfl⟩ <|
  allC ⟨_, Tryz.func79, by kernel_rfl, by kernel_rfl⟩ <|
  allC ⟨_, Tryz.func119, by kernel_rfl, by kernel_rfl⟩ <|
  allC ⟨_, Tryz.func120, by kernel_rfl, by kernel_rfl⟩ <|
  allC ⟨_, Tryz.func149, by kernel_rfl, by kernel_rfl⟩ <|
  allC ⟨_, Tryz.func150, by kernel_rfl, by kernel_rfl⟩ <|
  allC ⟨_, Tryz.func157, by kernel_rfl, by kernel_rfl⟩ <|
  allC ⟨_, Tryz.func158, by kernel_rfl, by kernel_rfl⟩ <|
  allC ⟨_, Tryz.func174, by kernel_rfl, by kernel_rfl⟩ <|
  allC ⟨_, Tryz.func176, by kernel_rfl, by kernel_rfl⟩ <|
  allC ⟨_, Tryz.func180, by kernel_rfl, by kernel_rfl⟩ <|
  allC ⟨_, Tryz.func181, by kernel_rfl, by kernel_rfl⟩ <|
  allC ⟨_, Tryz.func182, by kernel_rfl, by kernel_rfl⟩ <|
  allC ⟨_, Tryz.func184, by kernel_rfl, by kernel_rfl⟩ <|
  allC ⟨_, Tryz.func185, by kernel_rfl, by kernel_rfl⟩ <|
  allC ⟨_, Tryz.func186, by kernel_rfl, by kernel_rfl⟩ <|
  allC ⟨_, Tryz.func187, by kernel_rfl, by kernel_rfl⟩ <|
  allC ⟨_, Tryz.func208, by kernel_rfl, by kernel_rfl⟩ <|
  allC ⟨_, Tryz.func209, by kernel_rfl, by kernel_rfl⟩ <|
  allC ⟨_, Tryz.func210, by kernel_rfl, by kernel_rfl⟩ <|
  allC ⟨_, Tryz.func211, by kernel_rfl, by kernel_rfl⟩ <|
  allC ⟨_, Tryz.func212, by kernel_rfl, by kernel_rfl⟩ <|
  allC ⟨_, Tryz.func213, by kernel_rfl, by kernel_rfl⟩ <|
  allC ⟨_, Tryz.func214, by kernel_rfl, by kernel_rfl⟩ <|
  allC ⟨_, Tryz.func222, by kernel_rfl, by kernel_rfl⟩ <|
  allC ⟨_, Tryz.func223, by kernel_rfl, by kernel_rfl⟩ <|
  allC ⟨_, Tryz.func224, by kernel_rfl, by kernel_rfl⟩ <|
  allC ⟨_, Tryz.func226, by kernel_rfl, by kernel_rfl⟩ <|
  allC ⟨_, Tryz.func227, by kernel_rfl, by kernel_rfl⟩ <|
  allC ⟨_, Tryz.func229, by kernel_rfl, by kernel_rfl⟩ <|
  allC ⟨_, Tryz.func259, by kernel_rfl, by kernel_rfl⟩ <|
  allC ⟨_, Tryz.func2, by kernel_rfl, by kernel_rfl⟩ <|
  allC ⟨_, Tryz.func143, by kernel_rfl, by kernel_rfl⟩ <|
  allN

theorem good : Good Tryz.prog gam := fun g fid h => goodAll (g, fid) (lk_mem gtbl g fid h)

theorem mixed : Tryz.prog.follows .mixedOrders = true := by kernel_rfl

end Go.Proofs.YtdoddbmnmpgpmaaGreatDoor
