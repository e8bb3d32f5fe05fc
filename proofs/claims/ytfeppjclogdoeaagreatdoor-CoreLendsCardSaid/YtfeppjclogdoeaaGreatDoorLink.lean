/-
  Each clean text is that of the model's function: printed by a program, tested by Lean's kernel.
-/
import Derived.Test.YtfeppjclogdoeaaGreatDoorM2
import Derived.Test.YtfeppjclogdoeaaGreatDoorS
import Derived.Test.YtfeppjclogdoeaaGreatDoorChecked
import Derived.KernelRfl
namespace Go.Proofs.YtfeppjclogdoeaaGreatDoor
open Go Go.Cl

def gtbl : List (Nat × Nat) := [
  (302, 3),
  (311, 4),
  (313, 5),
  (303, 6),
  (304, 7),
  (305, 8),
  (306, 9),
  (307, 10),
  (308, 11),
  (309, 12),
  (310, 13),
  (312, 14),
  (20, 15),
  (314, 16),
  (315, 17),
  (52, 18),
  (316, 19),
  (265, 20),
  (317, 21),
  (318, 22),
  (319, 23),
  (5, 24),
  (320, 25),
  (321, 26),
  (322, 27),
  (323, 28),
  (6, 29),
  (48, 30),
  (324, 31),
  (30, 32),
  (325, 33),
  (326, 34),
  (327, 35),
  (328, 36),
  (329, 37),
  (330, 38),
  (17, 39),
  (331, 40),
  (39, 41),
  (333, 43),
  (55, 44),
  (334, 45),
  (273, 46),
  (335, 47),
  (336, 48),
  (338, 49),
  (337, 50),
  (358, 51),
  (340, 52),
  (339, 53),
  (341, 54),
  (65, 55),
  (36, 56),
  (342, 57),
  (343, 58),
  (43, 59),
  (41, 60),
  (45, 61),
  (344, 62),
  (345, 63),
  (346, 64),
  (347, 65),
  (348, 66),
  (349, 67),
  (350, 68),
  (351, 69),
  (352, 70),
  (353, 71),
  (56, 72),
  (354, 73),
  (355, 74),
  (377, 75),
  (356, 76),
  (97, 77),
  (285, 78),
  (286, 79),
  (287, 80),
  (288, 81),
  (357, 82),
  (359, 83),
  (360, 84),
  (361, 85),
  (362, 86),
  (69, 87),
  (363, 88),
  (364, 89),
  (365, 90),
  (366, 91),
  (367, 92),
  (368, 93),
  (369, 94),
  (370, 95),
  (371, 96),
  (372, 97),
  (373, 98),
  (374, 99),
  (375, 100),
  (378, 102),
  (124, 103),
  (219, 104),
  (294, 105),
  (295, 106),
  (297, 107),
  (296, 108),
  (235, 109),
  (298, 110),
  (379, 111),
  (380, 112),
  (382, 113),
  (381, 114),
  (384, 115),
  (383, 116),
  (387, 117),
  (386, 118),
  (385, 119),
  (388, 120),
  (389, 121),
  (390, 122),
  (391, 123),
  (392, 124),
  (394, 126),
  (397, 128),
  (396, 129),
  (414, 131),
  (143, 132),
  (142, 133),
  (144, 134),
  (146, 135),
  (145, 136),
  (224, 139),
  (225, 140),
  (61, 141),
  (223, 142),
  (301, 143),
  (238, 144),
  (398, 145),
  (399, 146),
  (400, 147),
  (401, 148),
  (402, 149),
  (403, 150),
  (404, 151),
  (405, 152),
  (406, 153),
  (407, 154),
  (422, 155),
  (188, 156),
  (408, 157),
  (409, 158),
  (410, 159),
  (411, 160),
  (412, 161),
  (415, 162),
  (158, 163),
  (234, 167),
  (416, 168),
  (417, 169),
  (418, 170),
  (419, 171),
  (420, 172),
  (421, 173),
  (424, 174),
  (423, 175),
  (425, 176),
  (426, 180),
  (332, 42),
  (393, 125),
  (395, 127),
  (148, 137),
  (147, 138),
  (159, 164),
  (160, 165),
  (161, 166),
  (172, 177),
  (173, 178),
  (174, 179),
  (201, 181),
  (202, 182),
  (198, 183),
  (195, 185),
  (216, 210),
  (2, 2),
  (376, 101)]

def ttbl : List (Nat × Nat) := [(0, 109), (4, 5), (6, 9)]

def gam : Gam where
  F := S.lk gtbl
  T := fun t => (S.lk ttbl t).getD 0
  K := []

theorem link302 : funM Tryz.prog gam S.f302 Tryz.f3 = true := by kernel_rfl
theorem link311 : funM Tryz.prog gam S.f311 Tryz.f4 = true := by kernel_rfl
theorem link313 : funM Tryz.prog gam S.f313 Tryz.f5 = true := by kernel_rfl
theorem link303 : funM Tryz.prog gam S.f303 Tryz.f6 = true := by kernel_rfl
theorem link304 : funM Tryz.prog gam S.f304 Tryz.f7 = true := by kernel_rfl
theorem link305 : funM Tryz.prog gam S.f305 Tryz.f8 = true := by kernel_rfl
theorem link306 : funM Tryz.prog gam S.f306 Tryz.f9 = true := by kernel_rfl
theorem link307 : funM Tryz.prog gam S.f307 Tryz.f10 = true := by kernel_rfl
theorem link308 : funM Tryz.prog gam S.f308 Tryz.f11 = true := by kernel_rfl
theorem link309 : funM Tryz.prog gam S.f309 Tryz.f12 = true := by kernel_rfl
theorem link310 : funM Tryz.prog gam S.f310 Tryz.f13 = true := by kernel_rfl
theorem link312 : funM Tryz.prog gam S.f312 Tryz.f14 = true := by kernel_rfl
theorem link20 : funM Tryz.prog gam S.f20 Tryz.f15 = true := by kernel_rfl
theorem link314 : funM Tryz.prog gam S.f314 Tryz.f16 = true := by kernel_rfl
theorem link315 : funM Tryz.prog gam S.f315 Tryz.f17 = true := by kernel_rfl
theorem link52 : funM Tryz.prog gam S.f52 Tryz.f18 = true := by kernel_rfl
theorem link316 : funM Tryz.prog gam S.f316 Tryz.f19 = true := by kernel_rfl
theorem link265 : funM Tryz.prog gam S.f265 Tryz.f20 = true := by kernel_rfl
theorem link317 : funM Tryz.prog gam S.f317 Tryz.f21 = true := by kernel_rfl
theorem link318 : funM Tryz.prog gam S.f318 Tryz.f22 = true := by kernel_rfl
theorem link319 : funM Tryz.prog gam S.f319 Tryz.f23 = true := by kernel_rfl
theorem link5 : funM Tryz.prog gam S.f5 Tryz.f24 = true := by kernel_rfl
theorem link320 : funM Tryz.prog gam S.f320 Tryz.f25 = true := by kernel_rfl
theorem link321 : funM Tryz.prog gam S.f321 Tryz.f26 = true := by kernel_rfl
theorem link322 : funM Tryz.prog gam S.f322 Tryz.f27 = true := by kernel_rfl
theorem link323 : funM Tryz.prog gam S.f323 Tryz.f28 = true := by kernel_rfl
theorem link6 : funM Tryz.prog gam S.f6 Tryz.f29 = true := by kernel_rfl
theorem link48 : funM Tryz.prog gam S.f48 Tryz.f30 = true := by kernel_rfl
theorem link324 : funM Tryz.prog gam S.f324 Tryz.f31 = true := by kernel_rfl
theorem link30 : funM Tryz.prog gam S.f30 Tryz.f32 = true := by kernel_rfl
theorem link325 : funM Tryz.prog gam S.f325 Tryz.f33 = true := by kernel_rfl
theorem link326 : funM Tryz.prog gam S.f326 Tryz.f34 = true := by kernel_rfl
theorem link327 : funM Tryz.prog gam S.f327 Tryz.f35 = true := by kernel_rfl
theorem link328 : funM Tryz.prog gam S.f328 Tryz.f36 = true := by kernel_rfl
theorem link329 : funM Tryz.prog gam S.f329 Tryz.f37 = true := by kernel_rfl
theorem link330 : funM Tryz.prog gam S.f330 Tryz.f38 = true := by kernel_rfl
theorem link17 : funM Tryz.prog gam S.f17 Tryz.f39 = true := by kernel_rfl
theorem link331 : funM Tryz.prog gam S.f331 Tryz.f40 = true := by kernel_rfl
theorem link39 : funM Tryz.prog gam S.f39 Tryz.f41 = true := by kernel_rfl
theorem link333 : funM Tryz.prog gam S.f333 Tryz.f43 = true := by kernel_rfl
theorem link55 : funM Tryz.prog gam S.f55 Tryz.f44 = true := by kernel_rfl
theorem link334 : funM Tryz.prog gam S.f334 Tryz.f45 = true := by kernel_rfl
theorem link273 : funM Tryz.prog gam S.f273 Tryz.f46 = true := by kernel_rfl
theorem link335 : funM Tryz.prog gam S.f335 Tryz.f47 = true := by kernel_rfl
theorem link336 : funM Tryz.prog gam S.f336 Tryz.f48 = true := by kernel_rfl
theorem link338 : funM Tryz.prog gam S.f338 Tryz.f49 = true := by kernel_rfl
theorem link337 : funM Tryz.prog gam S.f337 Tryz.f50 = true := by kernel_rfl
theorem link358 : funM Tryz.prog gam S.f358 Tryz.f51 = true := by kernel_rfl
theorem link340 : funM Tryz.prog gam S.f340 Tryz.f52 = true := by kernel_rfl
theorem link339 : funM Tryz.prog gam S.f339 Tryz.f53 = true := by kernel_rfl
theorem link341 : funM Tryz.prog gam S.f341 Tryz.f54 = true := by kernel_rfl
theorem link65 : funM Tryz.prog gam S.f65 Tryz.f55 = true := by kernel_rfl
theorem link36 : funM Tryz.prog gam S.f36 Tryz.f56 = true := by kernel_rfl
theorem link342 : funM Tryz.prog gam S.f342 Tryz.f57 = true := by kernel_rfl
theorem link343 : funM Tryz.prog gam S.f343 Tryz.f58 = true := by kernel_rfl
theorem link43 : funM Tryz.prog gam S.f43 Tryz.f59 = true := by kernel_rfl
theorem link41 : funM Tryz.prog gam S.f41 Tryz.f60 = true := by kernel_rfl
theorem link45 : funM Tryz.prog gam S.f45 Tryz.f61 = true := by kernel_rfl
theorem link344 : funM Tryz.prog gam S.f344 Tryz.f62 = true := by kernel_rfl
theorem link345 : funM Tryz.prog gam S.f345 Tryz.f63 = true := by kernel_rfl
theorem link346 : funM Tryz.prog gam S.f346 Tryz.f64 = true := by kernel_rfl
theorem link347 : funM Tryz.prog gam S.f347 Tryz.f65 = true := by kernel_rfl
theorem link348 : funM Tryz.prog gam S.f348 Tryz.f66 = true := by kernel_rfl
theorem link349 : funM Tryz.prog gam S.f349 Tryz.f67 = true := by kernel_rfl
theorem link350 : funM Tryz.prog gam S.f350 Tryz.f68 = true := by kernel_rfl
theorem link352 : funM Tryz.prog gam S.f352 Tryz.f70 = true := by kernel_rfl
theorem link56 : funM Tryz.prog gam S.f56 Tryz.f72 = true := by kernel_rfl
theorem link354 : funM Tryz.prog gam S.f354 Tryz.f73 = true := by kernel_rfl
theorem link355 : funM Tryz.prog gam S.f355 Tryz.f74 = true := by kernel_rfl
theorem link356 : funM Tryz.prog gam S.f356 Tryz.f76 = true := by kernel_rfl
theorem link97 : funM Tryz.prog gam S.f97 Tryz.f77 = true := by kernel_rfl
theorem link285 : funM Tryz.prog gam S.f285 Tryz.f78 = true := by kernel_rfl
theorem link286 : funM Tryz.prog gam S.f286 Tryz.f79 = true := by kernel_rfl
theorem link287 : funM Tryz.prog gam S.f287 Tryz.f80 = true := by kernel_rfl
theorem link288 : funM Tryz.prog gam S.f288 Tryz.f81 = true := by kernel_rfl
theorem link357 : funM Tryz.prog gam S.f357 Tryz.f82 = true := by kernel_rfl
theorem link359 : funM Tryz.prog gam S.f359 Tryz.f83 = true := by kernel_rfl
theorem link360 : funM Tryz.prog gam S.f360 Tryz.f84 = true := by kernel_rfl
theorem link361 : funM Tryz.prog gam S.f361 Tryz.f85 = true := by kernel_rfl
theorem link362 : funM Tryz.prog gam S.f362 Tryz.f86 = true := by kernel_rfl
theorem link363 : funM Tryz.prog gam S.f363 Tryz.f88 = true := by kernel_rfl
theorem link364 : funM Tryz.prog gam S.f364 Tryz.f89 = true := by kernel_rfl
theorem link365 : funM Tryz.prog gam S.f365 Tryz.f90 = true := by kernel_rfl
theorem link366 : funM Tryz.prog gam S.f366 Tryz.f91 = true := by kernel_rfl
theorem link367 : funM Tryz.prog gam S.f367 Tryz.f92 = true := by kernel_rfl
theorem link368 : funM Tryz.prog gam S.f368 Tryz.f93 = true := by kernel_rfl
theorem link369 : funM Tryz.prog gam S.f369 Tryz.f94 = true := by kernel_rfl
theorem link370 : funM Tryz.prog gam S.f370 Tryz.f95 = true := by kernel_rfl
theorem link371 : funM Tryz.prog gam S.f371 Tryz.f96 = true := by kernel_rfl
theorem link372 : funM Tryz.prog gam S.f372 Tryz.f97 = true := by kernel_rfl
theorem link374 : funM Tryz.prog gam S.f374 Tryz.f99 = true := by kernel_rfl
theorem link375 : funM Tryz.prog gam S.f375 Tryz.f100 = true := by kernel_rfl
theorem link124 : funM Tryz.prog gam S.f124 Tryz.f103 = true := by kernel_rfl
theorem link219 : funM Tryz.prog gam S.f219 Tryz.f104 = true := by kernel_rfl
theorem link294 : funM Tryz.prog gam S.f294 Tryz.f105 = true := by kernel_rfl
theorem link295 : funM Tryz.prog gam S.f295 Tryz.f106 = true := by kernel_rfl
theorem link297 : funM Tryz.prog gam S.f297 Tryz.f107 = true := by kernel_rfl
theorem link296 : funM Tryz.prog gam S.f296 Tryz.f108 = true := by kernel_rfl
theorem link235 : funM Tryz.prog gam S.f235 Tryz.f109 = true := by kernel_rfl
theorem link379 : funM Tryz.prog gam S.f379 Tryz.f111 = true := by kernel_rfl
theorem link382 : funM Tryz.prog gam S.f382 Tryz.f113 = true := by kernel_rfl
theorem link381 : funM Tryz.prog gam S.f381 Tryz.f114 = true := by kernel_rfl
theorem link384 : funM Tryz.prog gam S.f384 Tryz.f115 = true := by kernel_rfl
theorem link383 : funM Tryz.prog gam S.f383 Tryz.f116 = true := by kernel_rfl
theorem link387 : funM Tryz.prog gam S.f387 Tryz.f117 = true := by kernel_rfl
theorem link386 : funM Tryz.prog gam S.f386 Tryz.f118 = true := by kernel_rfl
theorem link385 : funM Tryz.prog gam S.f385 Tryz.f119 = true := by kernel_rfl
theorem link388 : funM Tryz.prog gam S.f388 Tryz.f120 = true := by kernel_rfl
theorem link390 : funM Tryz.prog gam S.f390 Tryz.f122 = true := by kernel_rfl
theorem link391 : funM Tryz.prog gam S.f391 Tryz.f123 = true := by kernel_rfl
theorem link392 : funM Tryz.prog gam S.f392 Tryz.f124 = true := by kernel_rfl
theorem link394 : funM Tryz.prog gam S.f394 Tryz.f126 = true := by kernel_rfl
theorem link397 : funM Tryz.prog gam S.f397 Tryz.f128 = true := by kernel_rfl
theorem link144 : funM Tryz.prog gam S.f144 Tryz.f134 = true := by kernel_rfl
theorem link146 : funM Tryz.prog gam S.f146 Tryz.f135 = true := by kernel_rfl
theorem link145 : funM Tryz.prog gam S.f145 Tryz.f136 = true := by kernel_rfl
theorem link224 : funM Tryz.prog gam S.f224 Tryz.f139 = true := by kernel_rfl
theorem link223 : funM Tryz.prog gam S.f223 Tryz.f142 = true := by kernel_rfl
theorem link301 : funM Tryz.prog gam S.f301 Tryz.f143 = true := by kernel_rfl
theorem link238 : funM Tryz.prog gam S.f238 Tryz.f144 = true := by kernel_rfl
theorem link399 : funM Tryz.prog gam S.f399 Tryz.f146 = true := by kernel_rfl
theorem link188 : funM Tryz.prog gam S.f188 Tryz.f156 = true := by kernel_rfl
theorem link408 : funM Tryz.prog gam S.f408 Tryz.f157 = true := by kernel_rfl
theorem link409 : funM Tryz.prog gam S.f409 Tryz.f158 = true := by kernel_rfl
theorem link410 : funM Tryz.prog gam S.f410 Tryz.f159 = true := by kernel_rfl
theorem link411 : funM Tryz.prog gam S.f411 Tryz.f160 = true := by kernel_rfl
theorem link412 : funM Tryz.prog gam S.f412 Tryz.f161 = true := by kernel_rfl
theorem link158 : funM Tryz.prog gam S.f158 Tryz.f163 = true := by kernel_rfl
theorem link424 : funM Tryz.prog gam S.f424 Tryz.f174 = true := by kernel_rfl

theorem lk_mem {α : Type} : ∀ (l : List (Nat × α)) (i : Nat) (v : α), S.lk l i = some v → (i, v) ∈ l
  | [], i, v, h => by cases h
  | (k, u) :: r, i, v, h => by
    unfold S.lk at h
    cases hb : Nat.beq i k with
    | true =>
      rw [hb] at h
      have := Nat.eq_of_beq_eq_true hb
      subst this
      cases h
      exact List.mem_cons_self
    | false => rw [hb] at h; exact List.mem_cons_of_mem _ (lk_mem r i v h)

theorem lkYes {g fid : Nat} {sf : SFunc} {fn : Func} (h1 : S.pg g = some sf) (h2 : Tryz.prog.funcs[fid]? = some fn) (h3 : funM Tryz.prog gam sf fn = true) : ∀ sf', S.pg g = some sf' → ∃ fn, Tryz.prog.funcs[fid]? = some fn ∧ funM Tryz.prog gam sf' fn = true :=
  fun sf' h => by rw [h1] at h; cases h; exact ⟨fn, h2, h3⟩
theorem lkNo {g fid : Nat} (h1 : S.pg g = none) : ∀ sf', S.pg g = some sf' → ∃ fn, Tryz.prog.funcs[fid]? = some fn ∧ funM Tryz.prog gam sf' fn = true :=
  fun sf' h => by rw [h1] at h; cases h
theorem allN {p : Nat × Nat → Prop} : ∀ x ∈ ([] : List (Nat × Nat)), p x := fun _ h => by cases h
theorem allC {p : Nat × Nat → Prop} {a : Nat × Nat} {l : List (Nat × Nat)} (h : p a) (k : ∀ x ∈ l, p x) : ∀ x ∈ a :: l, p x := fun x hx => by
  rcases List.mem_cons.1 hx with rfl | hx
  · exact h
  · exact k x hx

set_option maxRecDepth 100000 in
theorem linkedAll : ∀ x ∈ gtbl, ∀ sf', S.pg x.1 = some sf' → ∃ fn, Tryz.prog.funcs[x.2]? = some fn ∧ funM Tryz.prog gam sf' fn = true :=
  allC (lkYes S.pg302 Tryz.func3 link302) <|
  allC (lkYes S.pg311 Tryz.func4 link311) <|
  allC (lkYes S.pg313 Tryz.func5 link313) <|
  allC (lkYes S.pg303 Tryz.func6 link303) <|
  allC (lkYes S.pg304 Tryz.func7 link304) <|
  allC (lkYes S.pg305 Tryz.func8 link305) <|
  allC (lkYes S.pg306 Tryz.func9 link306) <|
  allC (lkYes S.pg307 Tryz.func10 link307) <|
  allC (lkYes S.pg308 Tryz.func11 link308) <|
  allC (lkYes S.pg309 Tryz.func12 link309) <|
  allC (lkYes S.pg310 Tryz.func13 link310) <|
  allC (lkYes S.pg312 Tryz.func14 link312) <|
  allC (lkYes S.pg20 Tryz.func15 link20) <|
  allC (lkYes S.pg314 Tryz.func16 link314) <|
  allC (lkYes S.pg315 Tryz.func17 link315) <|
  allC (lkYes S.pg52 Tryz.func18 link52) <|
  allC (lkYes S.pg316 Tryz.func19 link316) <|
  allC (lkYes S.pg265 Tryz.func20 link265) <|
  allC (lkYes S.pg317 Tryz.func21 link317) <|
  allC (lkYes S.pg318 Tryz.func22 link318) <|
  allC (lkYes S.pg319 Tryz.func23 link319) <|
  allC (lkYes S.pg5 Tryz.func24 link5) <|
  allC (lkYes S.pg320 Tryz.func25 link320) <|
  allC (lkYes S.pg321 Tryz.func26 link321) <|
  allC (lkYes S.pg322 Tryz.func27 link322) <|
  allC (lkYes S.pg323 Tryz.func28 link323) <|
  allC (lkYes S.pg6 Tryz.func29 link6) <|
  allC (lkYes S.pg48 Tryz.func30 link48) <|
  allC (lkYes S.pg324 Tryz.func31 link324) <|
  allC (lkYes S.pg30 Tryz.func32 link30) <|
  allC (lkYes S.pg325 Tryz.func33 link325) <|
  allC (lkYes S.pg326 Tryz.func34 link326) <|
  allC (lkYes S.pg327 Tryz.func35 link327) <|
  allC (lkYes S.pg328 Tryz.func36 link328) <|
  allC (lkYes S.pg329 Tryz.func37 link329) <|
  allC (lkYes S.pg330 Tryz.func38 link330) <|
  allC (lkYes S.pg17 Tryz.func39 link17) <|
  allC (lkYes S.pg331 Tryz.func40 link331) <|
  allC (lkYes S.pg39 Tryz.func41 link39) <|
  allC (lkYes S.pg333 Tryz.func43 link333) <|
  allC (lkYes S.pg55 Tryz.func44 link55) <|
  allC (lkYes S.pg334 Tryz.func45 link334) <|
  allC (lkYes S.pg273 Tryz.func46 link273) <|
  allC (lkYes S.pg335 Tryz.func47 link335) <|
  allC (lkYes S.pg336 Tryz.func48 link336) <|
  allC (lkYes S.pg338 Tryz.func49 link338) <|
  allC (lkYes S.pg337 Tryz.func50 link337) <|
  allC (lkYes S.pg358 Tryz.func51 link358) <|
  allC (lkYes S.pg340 Tryz.func52 link340) <|
  allC (lkYes S.pg339 Tryz.func53 link339) <|
  allC (lkYes S.pg341 Tryz.func54 link341) <|
  allC (lkYes S.pg65 Tryz.func55 link65) <|
  allC (lkYes S.pg36 Tryz.func56 link36) <|
  allC (lkYes S.pg342 Tryz.func57 link342) <|
  allC (lkYes S.pg343 Tryz.func58 link343) <|
  allC (lkYes S.pg43 Tryz.func59 link43) <|
  allC (lkYes S.pg41 Tryz.func60 link41) <|
  allC (lkYes S.pg45 Tryz.func61 link45) <|
  allC (lkYes S.pg344 Tryz.func62 link344) <|
  allC (lkYes S.pg345 Tryz.func63 link345) <|
  allC (lkYes S.pg346 Tryz.func64 link346) <|
  allC (lkYes S.pg347 Tryz.func65 link347) <|
  allC (lkYes S.pg348 Tryz.func66 link348) <|
  allC (lkYes S.pg349 Tryz.func67 link349) <|
  allC (lkYes S.pg350 Tryz.func68 link350) <|
  allC (lkNo rfl) <|
  allC (lkYes S.pg352 Tryz.func70 link352) <|
  allC (lkNo rfl) <|
  allC (lkYes S.pg56 Tryz.func72 link56) <|
  allC (lkYes S.pg354 Tryz.func73 link354) <|
  allC (lkYes S.pg355 Tryz.func74 link355) <|
  allC (lkNo rfl) <|
  allC (lkYes S.pg356 Tryz.func76 link356) <|
  allC (lkYes S.pg97 Tryz.func77 link97) <|
  allC (lkYes S.pg285 Tryz.func78 link285) <|
  allC (lkYes S.pg286 Tryz.func79 link286) <|
  allC (lkYes S.pg287 Tryz.func80 link287) <|
  allC (lkYes S.pg288 Tryz.func81 link288) <|
  allC (lkYes S.pg357 Tryz.func82 link357) <|
  allC (lkYes S.pg359 Tryz.func83 link359) <|
  allC (lkYes S.pg360 Tryz.func84 link360) <|
  allC (lkYes S.pg361 Tryz.func85 link361) <|
  allC (lkYes S.pg362 Tryz.func86 link362) <|
  allC (lkNo rfl) <|
  allC (lkYes S.pg363 Tryz.func88 link363) <|
  allC (lkYes S.pg364 Tryz.func89 link364) <|
  allC (lkYes S.pg365 Tryz.func90 link365) <|
  allC (lkYes S.pg366 Tryz.func91 link366) <|
  allC (lkYes S.pg367 Tryz.func92 link367) <|
  allC (lkYes S.pg368 Tryz.func93 link368) <|
  allC (lkYes S.pg369 Tryz.func94 link369) <|
  allC (lkYes S.pg370 Tryz.func95 link370) <|
  allC (lkYes S.pg371 Tryz.func96 link371) <|
  allC (lkYes S.pg372 Tryz.func97 link372) <|
  allC (lkNo rfl) <|
  allC (lkYes S.pg374 Tryz.func99 link374) <|
  allC (lkYes S.pg375 Tryz.func100 link375) <|
  allC (lkNo rfl) <|
  allC (lkYes S.pg124 Tryz.func103 link124) <|
  allC (lkYes S.pg219 Tryz.func104 link219) <|
  allC (lkYes S.pg294 Tryz.func105 link294) <|
  allC (lkYes S.pg295 Tryz.func106 link295) <|
  allC (lkYes S.pg297 Tryz.func107 link297) <|
  allC (lkYes S.pg296 Tryz.func108 link296) <|
  allC (lkYes S.pg235 Tryz.func109 link235) <|
  allC (lkNo rfl) <|
  allC (lkYes S.pg379 Tryz.func111 link379) <|
  allC (lkNo rfl) <|
  allC (lkYes S.pg382 Tryz.func113 link382) <|
  allC (lkYes S.pg381 Tryz.func114 link381) <|
  allC (lkYes S.pg384 Tryz.func115 link384) <|
  allC (lkYes S.pg383 Tryz.func116 link383) <|
  allC (lkYes S.pg387 Tryz.func117 link387) <|
  allC (lkYes S.pg386 Tryz.func118 link386) <|
  allC (lkYes S.pg385 Tryz.func119 link385) <|
  allC (lkYes S.pg388 Tryz.func120 link388) <|
  allC (lkNo rfl) <|
  allC (lkYes S.pg390 Tryz.func122 link390) <|
  allC (lkYes S.pg391 Tryz.func123 link391) <|
  allC (lkYes S.pg392 Tryz.func124 link392) <|
  allC (lkYes S.pg394 Tryz.func126 link394) <|
  allC (lkYes S.pg397 Tryz.func128 link397) <|
  allC (lkNo rfl) <|
  allC (lkNo rfl) <|
  allC (lkNo rfl) <|
  allC (lkNo rfl) <|
  allC (lkYes S.pg144 Tryz.func134 link144) <|
  allC (lkYes S.pg146 Tryz.func135 link146) <|
  allC (lkYes S.pg145 Tryz.func136 link145) <|
  allC (lkYes S.pg224 Tryz.func139 link224) <|
  allC (lkNo rfl) <|
  allC (lkNo rfl) <|
  allC (lkYes S.pg223 Tryz.func142 link223) <|
  allC (lkYes S.pg301 Tryz.func143 link301) <|
  allC (lkYes S.pg238 Tryz.func144 link238) <|
  allC (lkNo rfl) <|
  allC (lkYes S.pg399 Tryz.func146 link399) <|
  allC (lkNo rfl) <|
  allC (lkNo rfl) <|
  allC (lkNo rfl) <|
  allC (lkNo rfl) <|
  allC (lkNo rfl) <|
  allC (lkNo rfl) <|
  allC (lkNo rfl) <|
  allC (lkNo rfl) <|
  allC (lkNo rfl) <|
  allC (lkYes S.pg188 Tryz.func156 link188) <|
  allC (lkYes S.pg408 Tryz.func157 link408) <|
  allC (lkYes S.pg409 Tryz.func158 link409) <|
  allC (lkYes S.pg410 Tryz.func159 link410) <|
  allC (lkYes S.pg411 Tryz.func160 link411) <|
  allC (lkYes S.pg412 Tryz.func161 link412) <|
  allC (lkNo rfl) <|
  allC (lkYes S.pg158 Tryz.func163 link158) <|
  allC (lkNo rfl) <|
  allC (lkNo rfl) <|
  allC (lkNo rfl) <|
  allC (lkNo rfl) <|
  allC (lkNo rfl) <|
  allC (lkNo rfl) <|
  allC (lkNo rfl) <|
  allC (lkYes S.pg424 Tryz.func174 link424) <|
  allC (lkNo rfl) <|
  allC (lkNo rfl) <|
  allC (lkNo rfl) <|
  allC (lkNo rfl) <|
  allC (lkNo rfl) <|
  allC (lkNo rfl) <|
  allC (lkNo rfl) <|
  allC (lkNo rfl) <|
  allC (lkNo rfl) <|
  allC (lkNo rfl) <|
  allC (lkNo rfl) <|
  allC (lkNo rfl) <|
  allC (lkNo rfl) <|
  allC (lkNo rfl) <|
  allC (lkNo rfl) <|
  allC (lkNo rfl) <|
  allC (lkNo rfl) <|
  allC (lkNo rfl) <|
  allC (lkNo rfl) <|
  allC (lkNo rfl) <|
  allC (lkNo rfl) <|
  allN

theorem linked : Linked Tryz.prog gam S.pg := fun f fid hf sf hs => linkedAll (f, fid) (lk_mem gtbl f fid hf) sf hs

set_option maxRecDepth 100000 in
theorem goodAll : ∀ x ∈ gtbl, ∃ fn, Tryz.prog.funcs[x.2]? = some fn ∧ fn.body.isNone = false ∧ (fn.name == "runtime.NumGoroutine") = false :=
  allC ⟨_, Tryz.func3, by kernel_rfl, by kernel_rfl⟩ <|
  allC ⟨_, Tryz.func4, by kernel_rfl, by kernel_rfl⟩ <|
  allC ⟨_, Tryz.func5, by kernel_rfl, by kernel_rfl⟩ <|
  allC ⟨_, Tryz.func6, by kernel_rfl, by kernel_rfl⟩ <|
  allC ⟨_, Tryz.func7, by kernel_rfl, by kernel_rfl⟩ <|
  allC ⟨_, Tryz.func8, by kernel_rfl, by kernel_rfl⟩ <|
  allC ⟨_, Tryz.func9, by kernel_rfl, by kernel_rfl⟩ <|
  allC ⟨_, Tryz.func10, by kernel_rfl, by kernel_rfl⟩ <|
  allC ⟨_, Tryz.func11, by kernel_rfl, by kernel_rfl⟩ <|
  allC ⟨_, Tryz.func12, by kernel_rfl, by kernel_rfl⟩ <|
  allC ⟨_, Tryz.func13, by kernel_rfl, by kernel_rfl⟩ <|
  allC ⟨_, Tryz.func14, by kernel_rfl, by kernel_rfl⟩ <|
  allC ⟨_, Tryz.func15, by kernel_rfl, by kernel_rfl⟩ <|
  allC ⟨_, Tryz.func16, by kernel_rfl, by kernel_rfl⟩ <|
  allC ⟨_, Tryz.func17, by kernel_rfl, by kernel_rfl⟩ <|
  allC ⟨_, Tryz.func18, by kernel_rfl, by kernel_rfl⟩ <|
  allC ⟨_, Tryz.func19, by kernel_rfl, by kernel_rfl⟩ <|
  allC ⟨_, Tryz.func20, by kernel_rfl, by kernel_rfl⟩ <|
  allC ⟨_, Tryz.func21, by kernel_rfl, by kernel_rfl⟩ <|
  allC ⟨_, Tryz.func22, by kernel_rfl, by kernel_rfl⟩ <|
  allC ⟨_, Tryz.func23, by kernel_rfl, by kernel_rfl⟩ <|
  allC ⟨_, Tryz.func24, by kernel_rfl, by kernel_rfl⟩ <|
  allC ⟨_, Tryz.func25, by kernel_rfl, by kernel_rfl⟩ <|
  allC ⟨_, Tryz.func26, by kernel_rfl, by kernel_rfl⟩ <|
  allC ⟨_, Tryz.func27, by kernel_rfl, by kernel_rfl⟩ <|
  allC ⟨_, Tryz.func28, by kernel_rfl, by kernel_rfl⟩ <|
  allC ⟨_, Tryz.func29, by kernel_rfl, by kernel_rfl⟩ <|
  allC ⟨_, Tryz.func30, by kernel_rfl, by kernel_rfl⟩ <|
  allC ⟨_, Tryz.func31, by kernel_rfl, by kernel_rfl⟩ <|
  allC ⟨_, Tryz.func32, by kernel_rfl, by kernel_rfl⟩ <|
  allC ⟨_, Tryz.func33, by kernel_rfl, by kernel_rfl⟩ <|
  allC ⟨_, Tryz.func34, by kernel_rfl, by kernel_rfl⟩ <|
  allC ⟨_, Tryz.func35, by kernel_rfl, by kernel_rfl⟩ <|
  allC ⟨_, Tryz.func36, by kernel_rfl, by kernel_rfl⟩ <|
  allC ⟨_, Tryz.func37, by kernel_rfl, by kernel_rfl⟩ <|
  allC ⟨_, Tryz.func38, by kernel_rfl, by kernel_rfl⟩ <|
  allC ⟨_, Tryz.func39, by kernel_rfl, by kernel_rfl⟩ <|
  allC ⟨_, Tryz.func40, by kernel_rfl, by kernel_rfl⟩ <|
  allC ⟨_, Tryz.func41, by kernel_rfl, by kernel_rfl⟩ <|
  allC ⟨_, Tryz.func43, by kernel_rfl, by kernel_rfl⟩ <|
  allC ⟨_, Tryz.func44, by kernel_rfl, by kernel_rfl⟩ <|
  allC ⟨_, Tryz.func45, by kernel_rfl, by kernel_rfl⟩ <|
  allC ⟨_, Tryz.func46, by kernel_rfl, by kernel_rfl⟩ <|
  allC ⟨_, Tryz.func47, by kernel_rfl, by kernel_rfl⟩ <|
  allC ⟨_, Tryz.func48, by kernel_rfl, by kernel_rfl⟩ <|
  allC ⟨_, Tryz.func49, by kernel_rfl, by kernel_rfl⟩ <|
  allC ⟨_, Tryz.func50, by kernel_rfl, by kernel_rfl⟩ <|
  allC ⟨_, Tryz.func51, by kernel_rfl, by kernel_rfl⟩ <|
  allC ⟨_, Tryz.func52, by kernel_rfl, by kernel_rfl⟩ <|
  allC ⟨_, Tryz.func53, by kernel_rfl, by kernel_rfl⟩ <|
  allC ⟨_, Tryz.func54, by kernel_rfl, by kernel_rfl⟩ <|
  allC ⟨_, Tryz.func55, by kernel_rfl, by kernel_rfl⟩ <|
  allC ⟨_, Tryz.func56, by kernel_rfl, by kernel_rfl⟩ <|
  allC ⟨_, Tryz.func57, by kernel_rfl, by kernel_rfl⟩ <|
  allC ⟨_, Tryz.func58, by kernel_rfl, by kernel_rfl⟩ <|
  allC ⟨_, Tryz.func59, by kernel_rfl, by kernel_rfl⟩ <|
  allC ⟨_, Tryz.func60, by kernel_rfl, by kernel_rfl⟩ <|
  allC ⟨_, Tryz.func61, by kernel_rfl, by kernel_rfl⟩ <|
  allC ⟨_, Tryz.func62, by kernel_rfl, by kernel_rfl⟩ <|
  allC ⟨_, Tryz.func63, by kernel_rfl, by kernel_rfl⟩ <|
  allC ⟨_, Tryz.func64, by kernel_rfl, by kernel_rfl⟩ <|
  allC ⟨_, Tryz.func65, by kernel_rfl, by kernel_rfl⟩ <|
  allC ⟨_, Tryz.func66, by kernel_rfl, by kernel_rfl⟩ <|
  allC ⟨_, Tryz.func67, by kernel_rfl, by kernel_rfl⟩ <|
  allC ⟨_, Tryz.func68, by kernel_rfl, by kernel_rfl⟩ <|
  allC ⟨_, Tryz.func69, by kernel_rfl, by kernel_rfl⟩ <|
  allC ⟨_, Tryz.func70, by kernel_rfl, by kernel_rfl⟩ <|
  allC ⟨_, Tryz.func71, by kernel_rfl, by kernel_rfl⟩ <|
  allC ⟨_, Tryz.func72, by kernel_rfl, by kernel_rfl⟩ <|
  allC ⟨_, Tryz.func73, by kernel_rfl, by kernel_rfl⟩ <|
  allC ⟨_, Tryz.func74, by kernel_rfl, by kernel_rfl⟩ <|
  allC ⟨_, Tryz.func75, by kernel_rfl, by kernel_rfl⟩ <|
  allC ⟨_, Tryz.func76, by kernel_rfl, by kernel_rfl⟩ <|
  allC ⟨_, Tryz.func77, by kernel_rfl, by kernel_rfl⟩ <|
  allC ⟨_, Tryz.func78, by kernel_rfl, by kernel_rfl⟩ <|
  allC ⟨_, Tryz.func79, by kernel_rfl, by kernel_rfl⟩ <|
  allC ⟨_, Tryz.func80, by kernel_rfl, by kernel_rfl⟩ <|
  allC ⟨_, Tryz.func81, by kernel_rfl, by kernel_rfl⟩ <|
  allC ⟨_, Tryz.func82, by kernel_rfl, by kernel_rfl⟩ <|
  allC ⟨_, Tryz.func83, by kernel_rfl, by kernel_rfl⟩ <|
  allC ⟨_, Tryz.func84, by kernel_rfl, by kernel_rfl⟩ <|
  allC ⟨_, Tryz.func85, by kernel_rfl, by kernel_rfl⟩ <|
  allC ⟨_, Tryz.func86, by kernel_rfl, by kernel_rfl⟩ <|
  allC ⟨_, Tryz.func87, by kernel_rfl, by kernel_rfl⟩ <|
  allC ⟨_, Tryz.func88, by kernel_rfl, by kernel_rfl⟩ <|
  allC ⟨_, Tryz.func89, by kernel_rfl, by kernel_rfl⟩ <|
  allC ⟨_, Tryz.func90, by kernel_rfl, by kernel_rfl⟩ <|
  allC ⟨_, Tryz.func91, by kernel_rfl, by kernel_rfl⟩ <|
  allC ⟨_, Tryz.func92, by kernel_rfl, by kernel_rfl⟩ <|
  allC ⟨_, Tryz.func93, by kernel_rfl, by kernel_rfl⟩ <|
  allC ⟨_, Tryz.func94, by kernel_rfl, by kernel_rfl⟩ <|
  allC ⟨_, Tryz.func95, by kernel_rfl, by kernel_rfl⟩ <|
  allC ⟨_, Tryz.func96, by kernel_rfl, by kernel_rfl⟩ <|
  allC ⟨_, Tryz.func97, by kernel_rfl, by kernel_rfl⟩ <|
  allC ⟨_, Tryz.func98, by kernel_rfl, by kernel_rfl⟩ <|
  allC ⟨_, Tryz.func99, by kernel_rfl, by kernel_rfl⟩ <|
  allC ⟨_, Tryz.func100, by kernel_rfl, by kernel_rfl⟩ <|
  allC ⟨_, Tryz.func102, by kernel_rfl, by kernel_rfl⟩ <|
  allC ⟨_, Tryz.func103, by kernel_rfl, by kernel_rfl⟩ <|
  allC ⟨_, Tryz.func104, by kernel_rfl, by kernel_rfl⟩ <|
  allC ⟨_, Tryz.func105, by kernel_rfl, by kernel_rfl⟩ <|
  allC ⟨_, Tryz.func106, by kernel_rfl, by kernel_rfl⟩ <|
  allC ⟨_, Tryz.func107, by kernel_rfl, by kernel_rfl⟩ <|
  allC ⟨_, Tryz.func108, by kernel_rfl, by kernel_rfl⟩ <|
  allC ⟨_, Tryz.func109, by kernel_rfl, by kernel_rfl⟩ <|
  allC ⟨_, Tryz.func110, by kernel_rfl, by kernel_rfl⟩ <|
  allC ⟨_, Tryz.func111, by kernel_rfl, by kernel_rfl⟩ <|
  allC ⟨_, Tryz.func112, by kernel_rfl, by kernel_rfl⟩ <|
  allC ⟨_, Tryz.func113, by kernel_rfl, by kernel_rfl⟩ <|
  allC ⟨_, Tryz.func114, by kernel_rfl, by kernel_rfl⟩ <|
  allC ⟨_, Tryz.func115, by kernel_rfl, by kernel_rfl⟩ <|
  allC ⟨_, Tryz.func116, by kernel_rfl, by kernel_rfl⟩ <|
  allC ⟨_, Tryz.func117, by kernel_rfl, by kernel_rfl⟩ <|
  allC ⟨_, Tryz.func118, by kernel_rfl, by kernel_rfl⟩ <|
  allC ⟨_, Tryz.func119, by kernel_rfl, by kernel_rfl⟩ <|
  allC ⟨_, Tryz.func120, by kernel_rfl, by kernel_rfl⟩ <|
  allC ⟨_, Tryz.func121, by kernel_rfl, by kernel_rfl⟩ <|
  allC ⟨_, Tryz.func122, by kernel_rfl, by kernel_rfl⟩ <|
  allC ⟨_, Tryz.func123, by kernel_rfl, by kernel_rfl⟩ <|
  allC ⟨_, Tryz.func124, by kernel_rfl, by kernel_rfl⟩ <|
  allC ⟨_, Tryz.func126, by kernel_rfl, by kernel_rfl⟩ <|
  allC ⟨_, Tryz.func128, by kernel_rfl, by kernel_rfl⟩ <|
  allC ⟨_, Tryz.func129, by kernel_rfl, by kernel_rfl⟩ <|
  allC ⟨_, Tryz.func131, by kernel_rfl, by kernel_rfl⟩ <|
  allC ⟨_, Tryz.func132, by kernel_rfl, by kernel_rfl⟩ <|
  allC ⟨_, Tryz.func133, by kernel_rfl, by kernel_rfl⟩ <|
  allC ⟨_, Tryz.func134, by kernel_rfl, by kernel_rfl⟩ <|
  allC ⟨_, Tryz.func135, by kernel_rfl, by kernel_rfl⟩ <|
  allC ⟨_, Tryz.func136, by kernel_rfl, by kernel_rfl⟩ <|
  allC ⟨_, Tryz.func139, by kernel_rfl, by kernel_rfl⟩ <|
  allC ⟨_, Tryz.func140, by kernel_rfl, by kernel_rfl⟩ <|
  allC ⟨_, Tryz.func141, by kernel_rfl, by kernel_rfl⟩ <|
  allC ⟨_, Tryz.func142, by kernel_rfl, by kernel_rfl⟩ <|
  allC ⟨_, Tryz.func143, by kernel_rfl, by kernel_rfl⟩ <|
  allC ⟨_, Tryz.func144, by kernel_rfl, by kernel_rfl⟩ <|
  allC ⟨_, Tryz.func145, by kernel_rfl, by kernel_rfl⟩ <|
  allC ⟨_, Tryz.func146, by kernel_rfl, by kernel_rfl⟩ <|
  allC ⟨_, Tryz.func147, by kernel_rfl, by kernel_rfl⟩ <|
  allC ⟨_, Tryz.func148, by kernel_rfl, by kernel_rfl⟩ <|
  allC ⟨_, Tryz.func149, by kernel_rfl, by kernel_rfl⟩ <|
  allC ⟨_, Tryz.func150, by kernel_rfl, by kernel_rfl⟩ <|
  allC ⟨_, Tryz.func151, by kernel_rfl, by kernel_rfl⟩ <|
  allC ⟨_, Tryz.func152, by kernel_rfl, by kernel_rfl⟩ <|
  allC ⟨_, Tryz.func153, by kernel_rfl, by kernel_rfl⟩ <|
  allC ⟨_, Tryz.func154, by kernel_rfl, by kernel_rfl⟩ <|
  allC ⟨_, Tryz.func155, by kernel_rfl, by kernel_rfl⟩ <|
  allC ⟨_, Tryz.func156, by kernel_rfl, by kernel_rfl⟩ <|
  allC ⟨_, Tryz.func157, by kernel_rfl, by kernel_rfl⟩ <|
  allC ⟨_, Tryz.func158, by kernel_rfl, by kernel_rfl⟩ <|
  allC ⟨_, Tryz.func159, by kernel_rfl, by kernel_rfl⟩ <|
  allC ⟨_, Tryz.func160, by kernel_rfl, by kernel_rfl⟩ <|
  allC ⟨_, Tryz.func161, by kernel_rfl, by kernel_rfl⟩ <|
  allC ⟨_, Tryz.func162, by kernel_rfl, by kernel_rfl⟩ <|
  allC ⟨_, Tryz.func163, by kernel_rfl, by kernel_rfl⟩ <|
  allC ⟨_, Tryz.func167, by kernel_rfl, by kernel_rfl⟩ <|
  allC ⟨_, Tryz.func168, by kernel_rfl, by kernel_rfl⟩ <|
  allC ⟨_, Tryz.func169, by kernel_rfl, by kernel_rfl⟩ <|
  allC ⟨_, Tryz.func170, by kernel_rfl, by kernel_rfl⟩ <|
  allC ⟨_, Tryz.func171, by kernel_rfl, by kernel_rfl⟩ <|
  allC ⟨_, Tryz.func172, by kernel_rfl, by kernel_rfl⟩ <|
  allC ⟨_, Tryz.func173, by kernel_rfl, by kernel_rfl⟩ <|
  allC ⟨_, Tryz.func174, by kernel_rfl, by kernel_rfl⟩ <|
  allC ⟨_, Tryz.func175, by kernel_rfl, by kernel_rfl⟩ <|
  allC ⟨_, Tryz.func176, by kernel_rfl, by kernel_rfl⟩ <|
  allC ⟨_, Tryz.func180, by kernel_rfl, by kernel_rfl⟩ <|
  allC ⟨_, Tryz.func42, by kernel_rfl, by kernel_rfl⟩ <|
  allC ⟨_, Tryz.func125, by kernel_rfl, by kernel_rfl⟩ <|
  allC ⟨_, Tryz.func127, by kernel_rfl, by kernel_rfl⟩ <|
  allC ⟨_, Tryz.func137, by kernel_rfl, by kernel_rfl⟩ <|
  allC ⟨_, Tryz.func138, by kernel_rfl, by kernel_rfl⟩ <|
  allC ⟨_, Tryz.func164, by kernel_rfl, by kernel_rfl⟩ <|
  allC ⟨_, Tryz.func165, by kernel_rfl, by kernel_rfl⟩ <|
  allC ⟨_, Tryz.func166, by kernel_rfl, by kernel_rfl⟩ <|
  allC ⟨_, Tryz.func177, by kernel_rfl, by kernel_rfl⟩ <|
  allC ⟨_, Tryz.func178, by kernel_rfl, by kernel_rfl⟩ <|
  allC ⟨_, Tryz.func179, by kernel_rfl, by kernel_rfl⟩ <|
  allC ⟨_, Tryz.func181, by kernel_rfl, by kernel_rfl⟩ <|
  allC ⟨_, Tryz.func182, by kernel_rfl, by kernel_rfl⟩ <|
  allC ⟨_, Tryz.func183, by kernel_rfl, by kernel_rfl⟩ <|
  allC ⟨_, Tryz.func185, by kernel_rfl, by kernel_rfl⟩ <|
  allC ⟨_, Tryz.func210, by kernel_rfl, by kernel_rfl⟩ <|
  allC ⟨_, Tryz.func2, by kernel_rfl, by kernel_rfl⟩ <|
  allC ⟨_, Tryz.func101, by kernel_rfl, by kernel_rfl⟩ <|
  allN

theorem good : Good Tryz.prog gam := fun g fid h => goodAll (g, fid) (lk_mem gtbl g fid h)

theorem mixed : Tryz.prog.follows .mixedOrders = true := by kernel_rfl

end Go.Proofs.YtfeppjclogdoeaaGreatDoor
