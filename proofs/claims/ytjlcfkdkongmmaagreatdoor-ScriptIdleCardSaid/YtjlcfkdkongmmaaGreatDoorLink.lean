/-
  Each clean text is that of the model's function: printed by a program, tested by Lean's kernel.
-/
import Derived.Test.YtjlcfkdkongmmaaGreatDoorM2
import Derived.Test.YtjlcfkdkongmmaaGreatDoorS
import Derived.Test.YtjlcfkdkongmmaaGreatDoorChecked
import Derived.KernelRfl
namespace Go.Proofs.YtjlcfkdkongmmaaGreatDoor
open Go Go.Cl

def gtbl : List (Nat × Nat) := [
  (474, 5),
  (441, 7),
  (442, 9),
  (312, 11),
  (457, 12),
  (436, 13),
  (52, 14),
  (114, 15),
  (305, 16),
  (444, 17),
  (306, 18),
  (449, 19),
  (309, 20),
  (310, 21),
  (450, 22),
  (307, 23),
  (316, 24),
  (323, 25),
  (333, 26),
  (55, 27),
  (463, 28),
  (447, 29),
  (465, 30),
  (462, 31),
  (460, 32),
  (265, 33),
  (111, 35),
  (317, 37),
  (318, 38),
  (319, 39),
  (5, 40),
  (320, 41),
  (321, 42),
  (322, 43),
  (6, 44),
  (48, 45),
  (324, 46),
  (454, 47),
  (345, 48),
  (308, 49),
  (39, 50),
  (30, 52),
  (325, 53),
  (326, 54),
  (327, 55),
  (328, 56),
  (329, 57),
  (330, 58),
  (90, 59),
  (471, 60),
  (452, 61),
  (451, 62),
  (461, 63),
  (99, 64),
  (470, 66),
  (469, 67),
  (61, 68),
  (273, 69),
  (127, 71),
  (335, 72),
  (336, 73),
  (338, 74),
  (337, 75),
  (358, 76),
  (340, 77),
  (339, 78),
  (65, 80),
  (389, 81),
  (365, 83),
  (17, 85),
  (331, 86),
  (36, 88),
  (342, 89),
  (343, 90),
  (43, 91),
  (41, 92),
  (45, 93),
  (344, 94),
  (92, 105),
  (94, 106),
  (455, 107),
  (64, 108),
  (97, 111),
  (285, 112),
  (286, 113),
  (287, 114),
  (288, 115),
  (357, 117),
  (359, 118),
  (360, 119),
  (361, 120),
  (362, 121),
  (69, 122),
  (56, 125),
  (354, 126),
  (315, 127),
  (355, 128),
  (363, 130),
  (356, 131),
  (364, 132),
  (124, 144),
  (219, 148),
  (294, 149),
  (295, 150),
  (297, 151),
  (296, 152),
  (235, 153),
  (298, 154),
  (379, 155),
  (380, 156),
  (382, 157),
  (381, 158),
  (384, 162),
  (383, 163),
  (387, 164),
  (386, 165),
  (385, 166),
  (224, 194),
  (225, 195),
  (223, 196),
  (301, 197),
  (238, 198),
  (399, 200),
  (400, 201),
  (401, 202),
  (402, 203),
  (403, 204),
  (404, 205),
  (405, 206),
  (406, 207),
  (407, 208),
  (422, 209),
  (188, 210),
  (408, 213),
  (234, 235),
  (136, 34),
  (137, 36),
  (332, 51),
  (128, 65),
  (121, 103),
  (122, 104),
  (126, 109),
  (123, 143),
  (125, 145)]

def ttbl : List (Nat × Nat) := [(0, 146), (1, 308), (2, 311), (3, 340), (4, 5), (5, 90), (6, 9)]

def gam : Gam where
  F := S.lk gtbl
  T := fun t => (S.lk ttbl t).getD 0
  K := [.pin 0 (.ints .u64 [1, 10, 100, 1000, 10000, 100000, 1000000, 10000000, 100000000, 1000000000, 10000000000, 100000000000, 1000000000000, 10000000000000, 100000000000000, 1000000000000000, 10000000000000000, 100000000000000000, 1000000000000000000, 10000000000000000000]), .pin 1 (.anyInt .i64), .pin 2 (.anyIfc), .pin 3 (.anyIfc)]

theorem link474 : funM Tryz.prog gam S.f474 Tryz.f5 = true := by kernel_rfl
theorem link441 : funM Tryz.prog gam S.f441 Tryz.f7 = true := by kernel_rfl
theorem link442 : funM Tryz.prog gam S.f442 Tryz.f9 = true := by kernel_rfl
theorem link312 : funM Tryz.prog gam S.f312 Tryz.f11 = true := by kernel_rfl
theorem link457 : funM Tryz.prog gam S.f457 Tryz.f12 = true := by kernel_rfl
theorem link436 : funM Tryz.prog gam S.f436 Tryz.f13 = true := by kernel_rfl
theorem link52 : funM Tryz.prog gam S.f52 Tryz.f14 = true := by kernel_rfl
theorem link114 : funM Tryz.prog gam S.f114 Tryz.f15 = true := by kernel_rfl
theorem link305 : funM Tryz.prog gam S.f305 Tryz.f16 = true := by kernel_rfl
theorem link444 : funM Tryz.prog gam S.f444 Tryz.f17 = true := by kernel_rfl
theorem link306 : funM Tryz.prog gam S.f306 Tryz.f18 = true := by kernel_rfl
theorem link449 : funM Tryz.prog gam S.f449 Tryz.f19 = true := by kernel_rfl
theorem link309 : funM Tryz.prog gam S.f309 Tryz.f20 = true := by kernel_rfl
theorem link310 : funM Tryz.prog gam S.f310 Tryz.f21 = true := by kernel_rfl
theorem link450 : funM Tryz.prog gam S.f450 Tryz.f22 = true := by kernel_rfl
theorem link307 : funM Tryz.prog gam S.f307 Tryz.f23 = true := by kernel_rfl
theorem link316 : funM Tryz.prog gam S.f316 Tryz.f24 = true := by kernel_rfl
theorem link323 : funM Tryz.prog gam S.f323 Tryz.f25 = true := by kernel_rfl
theorem link333 : funM Tryz.prog gam S.f333 Tryz.f26 = true := by kernel_rfl
theorem link55 : funM Tryz.prog gam S.f55 Tryz.f27 = true := by kernel_rfl
theorem link463 : funM Tryz.prog gam S.f463 Tryz.f28 = true := by kernel_rfl
theorem link447 : funM Tryz.prog gam S.f447 Tryz.f29 = true := by kernel_rfl
theorem link465 : funM Tryz.prog gam S.f465 Tryz.f30 = true := by kernel_rfl
theorem link462 : funM Tryz.prog gam S.f462 Tryz.f31 = true := by kernel_rfl
theorem link460 : funM Tryz.prog gam S.f460 Tryz.f32 = true := by kernel_rfl
theorem link265 : funM Tryz.prog gam S.f265 Tryz.f33 = true := by kernel_rfl
theorem link111 : funM Tryz.prog gam S.f111 Tryz.f35 = true := by kernel_rfl
theorem link317 : funM Tryz.prog gam S.f317 Tryz.f37 = true := by kernel_rfl
theorem link318 : funM Tryz.prog gam S.f318 Tryz.f38 = true := by kernel_rfl
theorem link319 : funM Tryz.prog gam S.f319 Tryz.f39 = true := by kernel_rfl
theorem link5 : funM Tryz.prog gam S.f5 Tryz.f40 = true := by kernel_rfl
theorem link320 : funM Tryz.prog gam S.f320 Tryz.f41 = true := by kernel_rfl
theorem link322 : funM Tryz.prog gam S.f322 Tryz.f43 = true := by kernel_rfl
theorem link6 : funM Tryz.prog gam S.f6 Tryz.f44 = true := by kernel_rfl
theorem link48 : funM Tryz.prog gam S.f48 Tryz.f45 = true := by kernel_rfl
theorem link324 : funM Tryz.prog gam S.f324 Tryz.f46 = true := by kernel_rfl
theorem link454 : funM Tryz.prog gam S.f454 Tryz.f47 = true := by kernel_rfl
theorem link308 : funM Tryz.prog gam S.f308 Tryz.f49 = true := by kernel_rfl
theorem link39 : funM Tryz.prog gam S.f39 Tryz.f50 = true := by kernel_rfl
theorem link30 : funM Tryz.prog gam S.f30 Tryz.f52 = true := by kernel_rfl
theorem link325 : funM Tryz.prog gam S.f325 Tryz.f53 = true := by kernel_rfl
theorem link326 : funM Tryz.prog gam S.f326 Tryz.f54 = true := by kernel_rfl
theorem link327 : funM Tryz.prog gam S.f327 Tryz.f55 = true := by kernel_rfl
theorem link328 : funM Tryz.prog gam S.f328 Tryz.f56 = true := by kernel_rfl
theorem link90 : funM Tryz.prog gam S.f90 Tryz.f59 = true := by kernel_rfl
theorem link471 : funM Tryz.prog gam S.f471 Tryz.f60 = true := by kernel_rfl
theorem link452 : funM Tryz.prog gam S.f452 Tryz.f61 = true := by kernel_rfl
theorem link451 : funM Tryz.prog gam S.f451 Tryz.f62 = true := by kernel_rfl
theorem link461 : funM Tryz.prog gam S.f461 Tryz.f63 = true := by kernel_rfl
theorem link99 : funM Tryz.prog gam S.f99 Tryz.f64 = true := by kernel_rfl
theorem link470 : funM Tryz.prog gam S.f470 Tryz.f66 = true := by kernel_rfl
theorem link469 : funM Tryz.prog gam S.f469 Tryz.f67 = true := by kernel_rfl
theorem link61 : funM Tryz.prog gam S.f61 Tryz.f68 = true := by kernel_rfl
theorem link273 : funM Tryz.prog gam S.f273 Tryz.f69 = true := by kernel_rfl
theorem link127 : funM Tryz.prog gam S.f127 Tryz.f71 = true := by kernel_rfl
theorem link335 : funM Tryz.prog gam S.f335 Tryz.f72 = true := by kernel_rfl
theorem link336 : funM Tryz.prog gam S.f336 Tryz.f73 = true := by kernel_rfl
theorem link338 : funM Tryz.prog gam S.f338 Tryz.f74 = true := by kernel_rfl
theorem link337 : funM Tryz.prog gam S.f337 Tryz.f75 = true := by kernel_rfl
theorem link358 : funM Tryz.prog gam S.f358 Tryz.f76 = true := by kernel_rfl
theorem link340 : funM Tryz.prog gam S.f340 Tryz.f77 = true := by kernel_rfl
theorem link339 : funM Tryz.prog gam S.f339 Tryz.f78 = true := by kernel_rfl
theorem link65 : funM Tryz.prog gam S.f65 Tryz.f80 = true := by kernel_rfl
theorem link17 : funM Tryz.prog gam S.f17 Tryz.f85 = true := by kernel_rfl
theorem link331 : funM Tryz.prog gam S.f331 Tryz.f86 = true := by kernel_rfl
theorem link36 : funM Tryz.prog gam S.f36 Tryz.f88 = true := by kernel_rfl
theorem link342 : funM Tryz.prog gam S.f342 Tryz.f89 = true := by kernel_rfl
theorem link43 : funM Tryz.prog gam S.f43 Tryz.f91 = true := by kernel_rfl
theorem link41 : funM Tryz.prog gam S.f41 Tryz.f92 = true := by kernel_rfl
theorem link45 : funM Tryz.prog gam S.f45 Tryz.f93 = true := by kernel_rfl
theorem link344 : funM Tryz.prog gam S.f344 Tryz.f94 = true := by kernel_rfl
theorem link92 : funM Tryz.prog gam S.f92 Tryz.f105 = true := by kernel_rfl
theorem link94 : funM Tryz.prog gam S.f94 Tryz.f106 = true := by kernel_rfl
theorem link455 : funM Tryz.prog gam S.f455 Tryz.f107 = true := by kernel_rfl
theorem link64 : funM Tryz.prog gam S.f64 Tryz.f108 = true := by kernel_rfl
theorem link97 : funM Tryz.prog gam S.f97 Tryz.f111 = true := by kernel_rfl
theorem link285 : funM Tryz.prog gam S.f285 Tryz.f112 = true := by kernel_rfl
theorem link286 : funM Tryz.prog gam S.f286 Tryz.f113 = true := by kernel_rfl
theorem link287 : funM Tryz.prog gam S.f287 Tryz.f114 = true := by kernel_rfl
theorem link288 : funM Tryz.prog gam S.f288 Tryz.f115 = true := by kernel_rfl
theorem link357 : funM Tryz.prog gam S.f357 Tryz.f117 = true := by kernel_rfl
theorem link359 : funM Tryz.prog gam S.f359 Tryz.f118 = true := by kernel_rfl
theorem link360 : funM Tryz.prog gam S.f360 Tryz.f119 = true := by kernel_rfl
theorem link361 : funM Tryz.prog gam S.f361 Tryz.f120 = true := by kernel_rfl
theorem link362 : funM Tryz.prog gam S.f362 Tryz.f121 = true := by kernel_rfl
theorem link56 : funM Tryz.prog gam S.f56 Tryz.f125 = true := by kernel_rfl
theorem link354 : funM Tryz.prog gam S.f354 Tryz.f126 = true := by kernel_rfl
theorem link363 : funM Tryz.prog gam S.f363 Tryz.f130 = true := by kernel_rfl
theorem link356 : funM Tryz.prog gam S.f356 Tryz.f131 = true := by kernel_rfl
theorem link364 : funM Tryz.prog gam S.f364 Tryz.f132 = true := by kernel_rfl
theorem link219 : funM Tryz.prog gam S.f219 Tryz.f148 = true := by kernel_rfl
theorem link294 : funM Tryz.prog gam S.f294 Tryz.f149 = true := by kernel_rfl
theorem link295 : funM Tryz.prog gam S.f295 Tryz.f150 = true := by kernel_rfl
theorem link297 : funM Tryz.prog gam S.f297 Tryz.f151 = true := by kernel_rfl
theorem link296 : funM Tryz.prog gam S.f296 Tryz.f152 = true := by kernel_rfl
theorem link235 : funM Tryz.prog gam S.f235 Tryz.f153 = true := by kernel_rfl
theorem link298 : funM Tryz.prog gam S.f298 Tryz.f154 = true := by kernel_rfl
theorem link379 : funM Tryz.prog gam S.f379 Tryz.f155 = true := by kernel_rfl
theorem link382 : funM Tryz.prog gam S.f382 Tryz.f157 = true := by kernel_rfl
theorem link381 : funM Tryz.prog gam S.f381 Tryz.f158 = true := by kernel_rfl
theorem link384 : funM Tryz.prog gam S.f384 Tryz.f162 = true := by kernel_rfl
theorem link224 : funM Tryz.prog gam S.f224 Tryz.f194 = true := by kernel_rfl
theorem link225 : funM Tryz.prog gam S.f225 Tryz.f195 = true := by kernel_rfl
theorem link223 : funM Tryz.prog gam S.f223 Tryz.f196 = true := by kernel_rfl
theorem link301 : funM Tryz.prog gam S.f301 Tryz.f197 = true := by kernel_rfl
theorem link238 : funM Tryz.prog gam S.f238 Tryz.f198 = true := by kernel_rfl
theorem link399 : funM Tryz.prog gam S.f399 Tryz.f200 = true := by kernel_rfl
theorem link188 : funM Tryz.prog gam S.f188 Tryz.f210 = true := by kernel_rfl
theorem link408 : funM Tryz.prog gam S.f408 Tryz.f213 = true := by kernel_rfl
theorem link234 : funM Tryz.prog gam S.f234 Tryz.f235 = true := by kernel_rfl

theorem lk_mem {α : Type} : ∀ (l : List (Nat × α)) (i : Nat) (v : α), S.lk l i = some v → (i, v) ∈ l
  | [], i, v, h => by cases h
  | (k, u) :: r, i, v, h => by
    unfold S.lk at h
    cases hb : Nat.beq i k with
    | true =>
      rw [hb] at h
      have := Nat.eq_of_beq_eq_true hb
      subst this
      cases h
      exact List.mem_cons_self
    | false => rw [hb] at h; exact List.mem_cons_of_mem _ (lk_mem r i v h)

theorem lkYes {g fid : Nat} {sf : SFunc} {fn : Func} (h1 : S.pg g = some sf) (h2 : Tryz.prog.funcs[fid]? = some fn) (h3 : funM Tryz.prog gam sf fn = true) : ∀ sf', S.pg g = some sf' → ∃ fn, Tryz.prog.funcs[fid]? = some fn ∧ funM Tryz.prog gam sf' fn = true :=
  fun sf' h => by rw [h1] at h; cases h; exact ⟨fn, h2, h3⟩
theorem lkNo {g fid : Nat} (h1 : S.pg g = none) : ∀ sf', S.pg g = some sf' → ∃ fn, Tryz.prog.funcs[fid]? = some fn ∧ funM Tryz.prog gam sf' fn = true :=
  fun sf' h => by rw [h1] at h; cases h
theorem allN {p : Nat × Nat → Prop} : ∀ x ∈ ([] : List (Nat × Nat)), p x := fun _ h => by cases h
theorem allC {p : Nat × Nat → Prop} {a : Nat × Nat} {l : List (Nat × Nat)} (h : p a) (k : ∀ x ∈ l, p x) : ∀ x ∈ a :: l, p x := fun x hx => by
  rcases List.mem_cons.1 hx with rfl | hx
  · exact h
  · exact k x hx

set_option maxRecDepth 100000 in
theorem linkedAll : ∀ x ∈ gtbl, ∀ sf', S.pg x.1 = some sf' → ∃ fn, Tryz.prog.funcs[x.2]? = some fn ∧ funM Tryz.prog gam sf' fn = true :=
  allC (lkYes S.pg474 Tryz.func5 link474) <|
  allC (lkYes S.pg441 Tryz.func7 link441) <|
  allC (lkYes S.pg442 Tryz.func9 link442) <|
  allC (lkYes S.pg312 Tryz.func11 link312) <|
  allC (lkYes S.pg457 Tryz.func12 link457) <|
  allC (lkYes S.pg436 Tryz.func13 link436) <|
  allC (lkYes S.pg52 Tryz.func14 link52) <|
  allC (lkYes S.pg114 Tryz.func15 link114) <|
  allC (lkYes S.pg305 Tryz.func16 link305) <|
  allC (lkYes S.pg444 Tryz.func17 link444) <|
  allC (lkYes S.pg306 Tryz.func18 link306) <|
  allC (lkYes S.pg449 Tryz.func19 link449) <|
  allC (lkYes S.pg309 Tryz.func20 link309) <|
  allC (lkYes S.pg310 Tryz.func21 link310) <|
  allC (lkYes S.pg450 Tryz.func22 link450) <|
  allC (lkYes S.pg307 Tryz.func23 link307) <|
  allC (lkYes S.pg316 Tryz.func24 link316) <|
  allC (lkYes S.pg323 Tryz.func25 link323) <|
  allC (lkYes S.pg333 Tryz.func26 link333) <|
  allC (lkYes S.pg55 Tryz.func27 link55) <|
  allC (lkYes S.pg463 Tryz.func28 link463) <|
  allC (lkYes S.pg447 Tryz.func29 link447) <|
  allC (lkYes S.pg465 Tryz.func30 link465) <|
  allC (lkYes S.pg462 Tryz.func31 link462) <|
  allC (lkYes S.pg460 Tryz.func32 link460) <|
  allC (lkYes S.pg265 Tryz.func33 link265) <|
  allC (lkYes S.pg111 Tryz.func35 link111) <|
  allC (lkYes S.pg317 Tryz.func37 link317) <|
  allC (lkYes S.pg318 Tryz.func38 link318) <|
  allC (lkYes S.pg319 Tryz.func39 link319) <|
  allC (lkYes S.pg5 Tryz.func40 link5) <|
  allC (lkYes S.pg320 Tryz.func41 link320) <|
  allC (lkNo rfl) <|
  allC (lkYes S.pg322 Tryz.func43 link322) <|
  allC (lkYes S.pg6 Tryz.func44 link6) <|
  allC (lkYes S.pg48 Tryz.func45 link48) <|
  allC (lkYes S.pg324 Tryz.func46 link324) <|
  allC (lkYes S.pg454 Tryz.func47 link454) <|
  allC (lkNo rfl) <|
  allC (lkYes S.pg308 Tryz.func49 link308) <|
  allC (lkYes S.pg39 Tryz.func50 link39) <|
  allC (lkYes S.pg30 Tryz.func52 link30) <|
  allC (lkYes S.pg325 Tryz.func53 link325) <|
  allC (lkYes S.pg326 Tryz.func54 link326) <|
  allC (lkYes S.pg327 Tryz.func55 link327) <|
  allC (lkYes S.pg328 Tryz.func56 link328) <|
  allC (lkNo rfl) <|
  allC (lkNo rfl) <|
  allC (lkYes S.pg90 Tryz.func59 link90) <|
  allC (lkYes S.pg471 Tryz.func60 link471) <|
  allC (lkYes S.pg452 Tryz.func61 link452) <|
  allC (lkYes S.pg451 Tryz.func62 link451) <|
  allC (lkYes S.pg461 Tryz.func63 link461) <|
  allC (lkYes S.pg99 Tryz.func64 link99) <|
  allC (lkYes S.pg470 Tryz.func66 link470) <|
  allC (lkYes S.pg469 Tryz.func67 link469) <|
  allC (lkYes S.pg61 Tryz.func68 link61) <|
  allC (lkYes S.pg273 Tryz.func69 link273) <|
  allC (lkYes S.pg127 Tryz.func71 link127) <|
  allC (lkYes S.pg335 Tryz.func72 link335) <|
  allC (lkYes S.pg336 Tryz.func73 link336) <|
  allC (lkYes S.pg338 Tryz.func74 link338) <|
  allC (lkYes S.pg337 Tryz.func75 link337) <|
  allC (lkYes S.pg358 Tryz.func76 link358) <|
  allC (lkYes S.pg340 Tryz.func77 link340) <|
  allC (lkYes S.pg339 Tryz.func78 link339) <|
  allC (lkYes S.pg65 Tryz.func80 link65) <|
  allC (lkNo rfl) <|
  allC (lkNo rfl) <|
  allC (lkYes S.pg17 Tryz.func85 link17) <|
  allC (lkYes S.pg331 Tryz.func86 link331) <|
  allC (lkYes S.pg36 Tryz.func88 link36) <|
  allC (lkYes S.pg342 Tryz.func89 link342) <|
  allC (lkNo rfl) <|
  allC (lkYes S.pg43 Tryz.func91 link43) <|
  allC (lkYes S.pg41 Tryz.func92 link41) <|
  allC (lkYes S.pg45 Tryz.func93 link45) <|
  allC (lkYes S.pg344 Tryz.func94 link344) <|
  allC (lkYes S.pg92 Tryz.func105 link92) <|
  allC (lkYes S.pg94 Tryz.func106 link94) <|
  allC (lkYes S.pg455 Tryz.func107 link455) <|
  allC (lkYes S.pg64 Tryz.func108 link64) <|
  allC (lkYes S.pg97 Tryz.func111 link97) <|
  allC (lkYes S.pg285 Tryz.func112 link285) <|
  allC (lkYes S.pg286 Tryz.func113 link286) <|
  allC (lkYes S.pg287 Tryz.func114 link287) <|
  allC (lkYes S.pg288 Tryz.func115 link288) <|
  allC (lkYes S.pg357 Tryz.func117 link357) <|
  allC (lkYes S.pg359 Tryz.func118 link359) <|
  allC (lkYes S.pg360 Tryz.func119 link360) <|
  allC (lkYes S.pg361 Tryz.func120 link361) <|
  allC (lkYes S.pg362 Tryz.func121 link362) <|
  allC (lkNo rfl) <|
  allC (lkYes S.pg56 Tryz.func125 link56) <|
  allC (lkYes S.pg354 Tryz.func126 link354) <|
  allC (lkNo rfl) <|
  allC (lkNo rfl) <|
  allC (lkYes S.pg363 Tryz.func130 link363) <|
  allC (lkYes S.pg356 Tryz.func131 link356) <|
  allC (lkYes S.pg364 Tryz.func132 link364) <|
  allC (lkNo rfl) <|
  allC (lkYes S.pg219 Tryz.func148 link219) <|
  allC (lkYes S.pg294 Tryz.func149 link294) <|
  allC (lkYes S.pg295 Tryz.func150 link295) <|
  allC (lkYes S.pg297 Tryz.func151 link297) <|
  allC (lkYes S.pg296 Tryz.func152 link296) <|
  allC (lkYes S.pg235 Tryz.func153 link235) <|
  allC (lkYes S.pg298 Tryz.func154 link298) <|
  allC (lkYes S.pg379 Tryz.func155 link379) <|
  allC (lkNo rfl) <|
  allC (lkYes S.pg382 Tryz.func157 link382) <|
  allC (lkYes S.pg381 Tryz.func158 link381) <|
  allC (lkYes S.pg384 Tryz.func162 link384) <|
  allC (lkNo rfl) <|
  allC (lkNo rfl) <|
  allC (lkNo rfl) <|
  allC (lkNo rfl) <|
  allC (lkYes S.pg224 Tryz.func194 link224) <|
  allC (lkYes S.pg225 Tryz.func195 link225) <|
  allC (lkYes S.pg223 Tryz.func196 link223) <|
  allC (lkYes S.pg301 Tryz.func197 link301) <|
  allC (lkYes S.pg238 Tryz.func198 link238) <|
  allC (lkYes S.pg399 Tryz.func200 link399) <|
  allC (lkNo rfl) <|
  allC (lkNo rfl) <|
  allC (lkNo rfl) <|
  allC (lkNo rfl) <|
  allC (lkNo rfl) <|
  allC (lkNo rfl) <|
  allC (lkNo rfl) <|
  allC (lkNo rfl) <|
  allC (lkNo rfl) <|
  allC (lkYes S.pg188 Tryz.func210 link188) <|
  allC (lkYes S.pg408 Tryz.func213 link408) <|
  allC (lkYes S.pg234 Tryz.func235 link234) <|
  allC (lkNo rfl) <|
  allC (lkNo rfl) <|
  allC (lkNo rfl) <|
  allC (lkNo rfl) <|
  allC (lkNo rfl) <|
  allC (lkNo rfl) <|
  allC (lkNo rfl) <|
  allC (lkNo rfl) <|
  allC (lkNo rfl) <|
  allN

theorem linked : Linked Tryz.prog gam S.pg := fun f fid hf sf hs => linkedAll (f, fid) (lk_mem gtbl f fid hf) sf hs

set_option maxRecDepth 100000 in
theorem goodAll : ∀ x ∈ gtbl, ∃ fn, Tryz.prog.funcs[x.2]? = some fn ∧ fn.body.isNone = false ∧ (fn.name == "runtime.NumGoroutine") = false :=
  allC ⟨_, Tryz.func5, by kernel_rfl, by kernel_rfl⟩ <|
  allC ⟨_, Tryz.func7, by kernel_rfl, by kernel_rfl⟩ <|
  allC ⟨_, Tryz.func9, by kernel_rfl, by kernel_rfl⟩ <|
  allC ⟨_, Tryz.func11, by kernel_rfl, by kernel_rfl⟩ <|
  allC ⟨_, Tryz.func12, by kernel_rfl, by kernel_rfl⟩ <|
  allC ⟨_, Tryz.func13, by kernel_rfl, by kernel_rfl⟩ <|
  allC ⟨_, Tryz.func14, by kernel_rfl, by kernel_rfl⟩ <|
  allC ⟨_, Tryz.func15, by kernel_rfl, by kernel_rfl⟩ <|
  allC ⟨_, Tryz.func16, by kernel_rfl, by kernel_rfl⟩ <|
  allC ⟨_, Tryz.func17, by kernel_rfl, by kernel_rfl⟩ <|
  allC ⟨_, Tryz.func18, by kernel_rfl, by kernel_rfl⟩ <|
  allC ⟨_, Tryz.func19, by kernel_rfl, by kernel_rfl⟩ <|
  allC ⟨_, Tryz.func20, by kernel_rfl, by kernel_rfl⟩ <|
  allC ⟨_, Tryz.func21, by kernel_rfl, by kernel_rfl⟩ <|
  allC ⟨_, Tryz.func22, by kernel_rfl, by kernel_rfl⟩ <|
  allC ⟨_, Tryz.func23, by kernel_rfl, by kernel_rfl⟩ <|
  allC ⟨_, Tryz.func24, by kernel_rfl, by kernel_rfl⟩ <|
  allC ⟨_, Tryz.func25, by kernel_rfl, by kernel_rfl⟩ <|
  allC ⟨_, Tryz.func26, by kernel_rfl, by kernel_rfl⟩ <|
  allC ⟨_, Tryz.func27, by kernel_rfl, by kernel_rfl⟩ <|
  allC ⟨_, Tryz.func28, by kernel_rfl, by kernel_rfl⟩ <|
  allC ⟨_, Tryz.func29, by kernel_rfl, by kernel_rfl⟩ <|
  allC ⟨_, Tryz.func30, by kernel_rfl, by kernel_rfl⟩ <|
  allC ⟨_, Tryz.func31, by kernel_rfl, by kernel_rfl⟩ <|
  allC ⟨_, Tryz.func32, by kernel_rfl, by kernel_rfl⟩ <|
  allC ⟨_, Tryz.func33, by kernel_rfl, by kernel_rfl⟩ <|
  allC ⟨_, Tryz.func35, by kernel_rfl, by kernel_rfl⟩ <|
  allC ⟨_, Tryz.func37, by kernel_rfl, by kernel_rfl⟩ <|
  allC ⟨_, Tryz.func38, by kernel_rfl, by kernel_rfl⟩ <|
  allC ⟨_, Tryz.func39, by kernel_rfl, by kernel_rfl⟩ <|
  allC ⟨_, Tryz.func40, by kernel_rfl, by kernel_rfl⟩ <|
  allC ⟨_, Tryz.func41, by kernel_rfl, by kernel_rfl⟩ <|
  allC ⟨_, Tryz.func42, by kernel_rfl, by kernel_rfl⟩ <|
  allC ⟨_, Tryz.func43, by kernel_rfl, by kernel_rfl⟩ <|
  allC ⟨_, Tryz.func44, by kernel_rfl, by kernel_rfl⟩ <|
  allC ⟨_, Tryz.func45, by kernel_rfl, by kernel_rfl⟩ <|
  allC ⟨_, Tryz.func46, by kernel_rfl, by kernel_rfl⟩ <|
  allC ⟨_, Tryz.func47, by kernel_rfl, by kernel_rfl⟩ <|
  allC ⟨_, Tryz.func48, by kernel_rfl, by kernel_rfl⟩ <|
  allC ⟨_, Tryz.func49, by kernel_rfl, by kernel_rfl⟩ <|
  allC ⟨_, Tryz.func50, by kernel_rfl, by kernel_rfl⟩ <|
  allC ⟨_, Tryz.func52, by kernel_rfl, by kernel_rfl⟩ <|
  allC ⟨_, Tryz.func53, by kernel_rfl, by kernel_rfl⟩ <|
  allC ⟨_, Tryz.func54, by kernel_rfl, by kernel_rfl⟩ <|
  allC ⟨_, Tryz.func55, by kernel_rfl, by kernel_rfl⟩ <|
  allC ⟨_, Tryz.func56, by kernel_rfl, by kernel_rfl⟩ <|
  allC ⟨_, Tryz.func57, by kernel_rfl, by kernel_rfl⟩ <|
  allC ⟨_, Tryz.func58, by kernel_rfl, by kernel_rfl⟩ <|
  allC ⟨_, Tryz.func59, by kernel_rfl, by kernel_rfl⟩ <|
  allC ⟨_, Tryz.func60, by kernel_rfl, by kernel_rfl⟩ <|
  allC ⟨_, Tryz.func61, by kernel_rfl, by kernel_rfl⟩ <|
  allC ⟨_, Tryz.func62, by kernel_rfl, by kernel_rfl⟩ <|
  allC ⟨_, Tryz.func63, by kernel_rfl, by kernel_rfl⟩ <|
  allC ⟨_, Tryz.func64, by kernel_rfl, by kernel_rfl⟩ <|
  allC ⟨_, Tryz.func66, by kernel_rfl, by kernel_rfl⟩ <|
  allC ⟨_, Tryz.func67, by kernel_rfl, by kernel_rfl⟩ <|
  allC ⟨_, Tryz.func68, by kernel_rfl, by kernel_rfl⟩ <|
  allC ⟨_, Tryz.func69, by kernel_rfl, by kernel_rfl⟩ <|
  allC ⟨_, Tryz.func71, by kernel_rfl, by kernel_rfl⟩ <|
  allC ⟨_, Tryz.func72, by kernel_rfl, by kernel_rfl⟩ <|
  allC ⟨_, Tryz.func73, by kernel_rfl, by kernel_rfl⟩ <|
  allC ⟨_, Tryz.func74, by kernel_rfl, by kernel_rfl⟩ <|
  allC ⟨_, Tryz.func75, by kernel_rfl, by kernel_rfl⟩ <|
  allC ⟨_, Tryz.func76, by kernel_rfl, by kernel_rfl⟩ <|
  allC ⟨_, Tryz.func77, by kernel_rfl, by kernel_rfl⟩ <|
  allC ⟨_, Tryz.func78, by kernel_rfl, by kernel_rfl⟩ <|
  allC ⟨_, Tryz.func80, by kernel_rfl, by kernel_rfl⟩ <|
  allC ⟨_, Tryz.func81, by kernel_rfl, by kernel_rfl⟩ <|
  allC ⟨_, Tryz.func83, by kernel_rfl, by kernel_rfl⟩ <|
  allC ⟨_, Tryz.func85, by kernel_rfl, by kernel_rfl⟩ <|
  allC ⟨_, Tryz.func86, by kernel_rfl, by kernel_rfl⟩ <|
  allC ⟨_, Tryz.func88, by kernel_rfl, by kernel_rfl⟩ <|
  allC ⟨_, Tryz.func89, by kernel_rfl, by kernel_rfl⟩ <|
  allC ⟨_, Tryz.func90, by kernel_rfl, by kernel_rfl⟩ <|
  allC ⟨_, Tryz.func91, by kernel_rfl, by kernel_rfl⟩ <|
  allC ⟨_, Tryz.func92, by kernel_rfl, by kernel_rfl⟩ <|
  allC ⟨_, Tryz.func93, by kernel_rfl, by kernel_rfl⟩ <|
  allC ⟨_, Tryz.func94, by kernel_rfl, by kernel_rfl⟩ <|
  allC ⟨_, Tryz.func105, by kernel_rfl, by kernel_rfl⟩ <|
  allC ⟨_, Tryz.func106, by kernel_rfl, by kernel_rfl⟩ <|
  allC ⟨_, Tryz.func107, by kernel_rfl, by kernel_rfl⟩ <|
  allC ⟨_, Tryz.func108, by kernel_rfl, by kernel_rfl⟩ <|
  allC ⟨_, Tryz.func111, by kernel_rfl, by kernel_rfl⟩ <|
  allC ⟨_, Tryz.func112, by kernel_rfl, by kernel_rfl⟩ <|
  allC ⟨_, Tryz.func113, by kernel_rfl, by kernel_rfl⟩ <|
  allC ⟨_, Tryz.func114, by kernel_rfl, by kernel_rfl⟩ <|
  allC ⟨_, Tryz.func115, by kernel_rfl, by kernel_rfl⟩ <|
  allC ⟨_, Tryz.func117, by kernel_rfl, by kernel_rfl⟩ <|
  allC ⟨_, Tryz.func118, by kernel_rfl, by kernel_rfl⟩ <|
  allC ⟨_, Tryz.func119, by kernel_rfl, by kernel_rfl⟩ <|
  allC ⟨_, Tryz.func120, by kernel_rfl, by kernel_rfl⟩ <|
  allC ⟨_, Tryz.func121, by kernel_rfl, by kernel_rfl⟩ <|
  allC ⟨_, Tryz.func122, by kernel_rfl, by kernel_rfl⟩ <|
  allC ⟨_, Tryz.func125, by kernel_rfl, by kernel_rfl⟩ <|
  allC ⟨_, Tryz.func126, by kernel_rfl, by kernel_rfl⟩ <|
  allC ⟨_, Tryz.func127, by kernel_rfl, by kernel_rfl⟩ <|
  allC ⟨_, Tryz.func128, by kernel_rfl, by kernel_rfl⟩ <|
  allC ⟨_, Tryz.func130, by kernel_rfl, by kernel_rfl⟩ <|
  allC ⟨_, Tryz.func131, by kernel_rfl, by kernel_rfl⟩ <|
  allC ⟨_, Tryz.func132, by kernel_rfl, by kernel_rfl⟩ <|
  allC ⟨_, Tryz.func144, by kernel_rfl, by kernel_rfl⟩ <|
  allC ⟨_, Tryz.func148, by kernel_rfl, by kernel_rfl⟩ <|
  allC ⟨_, Tryz.func149, by kernel_rfl, by kernel_rfl⟩ <|
  allC ⟨_, Tryz.func150, by kernel_rfl, by kernel_rfl⟩ <|
  allC ⟨_, Tryz.func151, by kernel_rfl, by kernel_rfl⟩ <|
  allC ⟨_, Tryz.func152, by kernel_rfl, by kernel_rfl⟩ <|
  allC ⟨_, Tryz.func153, by kernel_rfl, by kernel_rfl⟩ <|
  allC ⟨_, Tryz.func154, by kernel_rfl, by kernel_rfl⟩ <|
  allC ⟨_, Tryz.func155, by kernel_rfl, by kernel_rfl⟩ <|
  allC ⟨_, Tryz.func156, by kernel_rfl, by kernel_rfl⟩ <|
  allC ⟨_, Tryz.func157, by kernel_rfl, by kernel_rfl⟩ <|
  allC ⟨_, Tryz.func158, by kernel_rfl, by kernel_rfl⟩ <|
  allC ⟨_, Tryz.func162, by kernel_rfl, by kernel_rfl⟩ <|
  allC ⟨_, Tryz.func163, by kernel_rfl, by kernel_rfl⟩ <|
  allC ⟨_, Tryz.func164, by kernel_rfl, by kernel_rfl⟩ <|
  allC ⟨_, Tryz.func165, by kernel_rfl, by kernel_rfl⟩ <|
  allC ⟨_, Tryz.func166, by kernel_rfl, by kernel_rfl⟩ <|
  allC ⟨_, Tryz.func194, by kernel_rfl, by kernel_rfl⟩ <|
  allC ⟨_, Tryz.func195, by kernel_rfl, by kernel_rfl⟩ <|
  allC ⟨_, Tryz.func196, by kernel_rfl, by kernel_rfl⟩ <|
  allC ⟨_, Tryz.func197, by kernel_rfl, by kernel_rfl⟩ <|
  allC ⟨_, Tryz.func198, by kernel_rfl, by kernel_rfl⟩ <|
  allC ⟨_, Tryz.func200, by kernel_rfl, by kernel_rfl⟩ <|
  allC ⟨_, Tryz.func201, by kernel_rfl, by kernel_rfl⟩ <|
  allC ⟨_, Tryz.func202, by kernel_rfl, by kernel_rfl⟩ <|
  allC ⟨_, Tryz.func203, by kernel_rfl, by kernel_rfl⟩ <|
  allC ⟨_, Tryz.func204, by kernel_rfl, by kernel_rfl⟩ <|
  allC ⟨_, Tryz.func205, by kernel_rfl, by kernel_rfl⟩ <|
  allC ⟨_, Tryz.func206, by kernel_rfl, by kernel_rfl⟩ <|
  allC ⟨_, Tryz.func207, by kernel_rfl, by kernel_rfl⟩ <|
  allC ⟨_, Tryz.func208, by kernel_rfl, by kernel_rfl⟩ <|
  allC ⟨_, Tryz.func209, by kernel_rfl, by kernel_rfl⟩ <|
  allC ⟨_, Tryz.func210, by kernel_rfl, by kernel_rfl⟩ <|
  allC ⟨_, Tryz.func213, by kernel_rfl, by kernel_rfl⟩ <|
  allC ⟨_, Tryz.func235, by kernel_rfl, by kernel_rfl⟩ <|
  allC ⟨_, Tryz.func34, by kernel_rfl, by kernel_rfl⟩ <|
  allC ⟨_, Tryz.func36, by kernel_rfl, by kernel_rfl⟩ <|
  allC ⟨_, Tryz.func51, by kernel_rfl, by kernel_rfl⟩ <|
  allC ⟨_, Tryz.func65, by kernel_rfl, by kernel_rfl⟩ <|
  allC ⟨_, Tryz.func103, by kernel_rfl, by kernel_rfl⟩ <|
  allC ⟨_, Tryz.func104, by kernel_rfl, by kernel_rfl⟩ <|
  allC ⟨_, Tryz.func109, by kernel_rfl, by kernel_rfl⟩ <|
  allC ⟨_, Tryz.func143, by kernel_rfl, by kernel_rfl⟩ <|
  allC ⟨_, Tryz.func145, by kernel_rfl, by kernel_rfl⟩ <|
  allN

theorem good : Good Tryz.prog gam := fun g fid h => goodAll (g, fid) (lk_mem gtbl g fid h)

theorem mixed : Tryz.prog.follows .mixedOrders = true := by kernel_rfl

end Go.Proofs.YtjlcfkdkongmmaaGreatDoor
