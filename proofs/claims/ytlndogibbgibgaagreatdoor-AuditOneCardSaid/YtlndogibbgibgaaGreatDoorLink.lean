/-
  Each clean text is that of the model's function: printed by a program, tested by Lean's kernel.
-/
import Derived.Test.YtlndogibbgibgaaGreatDoorM2
import Derived.Test.YtlndogibbgibgaaGreatDoorS
import Derived.Test.YtlndogibbgibgaaGreatDoorChecked
import Derived.KernelRfl
namespace Go.Proofs.YtlndogibbgibgaaGreatDoor
open Go Go.Cl

def gtbl : List (Nat × Nat) := [
  (475, 3),
  (476, 6),
  (436, 7),
  (477, 8),
  (478, 9),
  (441, 11),
  (442, 12),
  (443, 13),
  (314, 14),
  (315, 15),
  (52, 16),
  (481, 17),
  (434, 18),
  (265, 19),
  (447, 20),
  (318, 21),
  (305, 24),
  (444, 25),
  (306, 26),
  (449, 27),
  (309, 28),
  (312, 29),
  (310, 30),
  (450, 31),
  (307, 32),
  (316, 33),
  (334, 34),
  (483, 35),
  (273, 36),
  (452, 37),
  (451, 38),
  (338, 39),
  (337, 40),
  (358, 41),
  (317, 45),
  (319, 46),
  (5, 47),
  (320, 48),
  (321, 49),
  (322, 50),
  (323, 51),
  (6, 52),
  (48, 53),
  (324, 54),
  (454, 55),
  (345, 56),
  (308, 57),
  (333, 58),
  (55, 59),
  (39, 60),
  (30, 62),
  (325, 63),
  (326, 64),
  (327, 65),
  (328, 66),
  (329, 67),
  (330, 68),
  (356, 69),
  (97, 70),
  (285, 71),
  (286, 72),
  (287, 73),
  (288, 74),
  (455, 75),
  (357, 76),
  (359, 77),
  (335, 82),
  (336, 83),
  (340, 84),
  (339, 85),
  (65, 87),
  (389, 88),
  (365, 90),
  (17, 92),
  (331, 93),
  (377, 94),
  (36, 95),
  (342, 96),
  (343, 97),
  (43, 98),
  (41, 99),
  (45, 100),
  (344, 101),
  (124, 110),
  (219, 111),
  (294, 112),
  (295, 113),
  (297, 114),
  (296, 115),
  (235, 116),
  (298, 117),
  (379, 118),
  (380, 119),
  (360, 123),
  (361, 124),
  (362, 125),
  (69, 126),
  (56, 129),
  (354, 130),
  (355, 131),
  (378, 132),
  (363, 133),
  (364, 134),
  (224, 150),
  (225, 151),
  (61, 152),
  (223, 153),
  (301, 154),
  (238, 155),
  (382, 159),
  (381, 160),
  (384, 164),
  (383, 165),
  (387, 166),
  (386, 167),
  (385, 168),
  (234, 181),
  (399, 188),
  (400, 189),
  (401, 190),
  (402, 191),
  (403, 192),
  (404, 193),
  (405, 194),
  (406, 195),
  (407, 196),
  (422, 197),
  (188, 198),
  (408, 201),
  (482, 22),
  (332, 61)]

def ttbl : List (Nat × Nat) := [(0, 162), (4, 5), (5, 110), (6, 9)]

def gam : Gam where
  F := S.lk gtbl
  T := fun t => (S.lk ttbl t).getD 0
  K := []

theorem link475 : funM Tryz.prog gam S.f475 Tryz.f3 = true := by kernel_rfl
theorem link476 : funM Tryz.prog gam S.f476 Tryz.f6 = true := by kernel_rfl
theorem link436 : funM Tryz.prog gam S.f436 Tryz.f7 = true := by kernel_rfl
theorem link477 : funM Tryz.prog gam S.f477 Tryz.f8 = true := by kernel_rfl
theorem link478 : funM Tryz.prog gam S.f478 Tryz.f9 = true := by kernel_rfl
theorem link441 : funM Tryz.prog gam S.f441 Tryz.f11 = true := by kernel_rfl
theorem link442 : funM Tryz.prog gam S.f442 Tryz.f12 = true := by kernel_rfl
theorem link443 : funM Tryz.prog gam S.f443 Tryz.f13 = true := by kernel_rfl
theorem link314 : funM Tryz.prog gam S.f314 Tryz.f14 = true := by kernel_rfl
theorem link315 : funM Tryz.prog gam S.f315 Tryz.f15 = true := by kernel_rfl
theorem link52 : funM Tryz.prog gam S.f52 Tryz.f16 = true := by kernel_rfl
theorem link481 : funM Tryz.prog gam S.f481 Tryz.f17 = true := by kernel_rfl
theorem link434 : funM Tryz.prog gam S.f434 Tryz.f18 = true := by kernel_rfl
theorem link265 : funM Tryz.prog gam S.f265 Tryz.f19 = true := by kernel_rfl
theorem link447 : funM Tryz.prog gam S.f447 Tryz.f20 = true := by kernel_rfl
theorem link318 : funM Tryz.prog gam S.f318 Tryz.f21 = true := by kernel_rfl
theorem link305 : funM Tryz.prog gam S.f305 Tryz.f24 = true := by kernel_rfl
theorem link444 : funM Tryz.prog gam S.f444 Tryz.f25 = true := by kernel_rfl
theorem link306 : funM Tryz.prog gam S.f306 Tryz.f26 = true := by kernel_rfl
theorem link449 : funM Tryz.prog gam S.f449 Tryz.f27 = true := by kernel_rfl
theorem link309 : funM Tryz.prog gam S.f309 Tryz.f28 = true := by kernel_rfl
theorem link312 : funM Tryz.prog gam S.f312 Tryz.f29 = true := by kernel_rfl
theorem link310 : funM Tryz.prog gam S.f310 Tryz.f30 = true := by kernel_rfl
theorem link450 : funM Tryz.prog gam S.f450 Tryz.f31 = true := by kernel_rfl
theorem link307 : funM Tryz.prog gam S.f307 Tryz.f32 = true := by kernel_rfl
theorem link316 : funM Tryz.prog gam S.f316 Tryz.f33 = true := by kernel_rfl
theorem link334 : funM Tryz.prog gam S.f334 Tryz.f34 = true := by kernel_rfl
theorem link483 : funM Tryz.prog gam S.f483 Tryz.f35 = true := by kernel_rfl
theorem link273 : funM Tryz.prog gam S.f273 Tryz.f36 = true := by kernel_rfl
theorem link452 : funM Tryz.prog gam S.f452 Tryz.f37 = true := by kernel_rfl
theorem link451 : funM Tryz.prog gam S.f451 Tryz.f38 = true := by kernel_rfl
theorem link338 : funM Tryz.prog gam S.f338 Tryz.f39 = true := by kernel_rfl
theorem link337 : funM Tryz.prog gam S.f337 Tryz.f40 = true := by kernel_rfl
theorem link358 : funM Tryz.prog gam S.f358 Tryz.f41 = true := by kernel_rfl
theorem link317 : funM Tryz.prog gam S.f317 Tryz.f45 = true := by kernel_rfl
theorem link319 : funM Tryz.prog gam S.f319 Tryz.f46 = true := by kernel_rfl
theorem link5 : funM Tryz.prog gam S.f5 Tryz.f47 = true := by kernel_rfl
theorem link320 : funM Tryz.prog gam S.f320 Tryz.f48 = true := by kernel_rfl
theorem link322 : funM Tryz.prog gam S.f322 Tryz.f50 = true := by kernel_rfl
theorem link323 : funM Tryz.prog gam S.f323 Tryz.f51 = true := by kernel_rfl
theorem link6 : funM Tryz.prog gam S.f6 Tryz.f52 = true := by kernel_rfl
theorem link48 : funM Tryz.prog gam S.f48 Tryz.f53 = true := by kernel_rfl
theorem link324 : funM Tryz.prog gam S.f324 Tryz.f54 = true := by kernel_rfl
theorem link454 : funM Tryz.prog gam S.f454 Tryz.f55 = true := by kernel_rfl
theorem link308 : funM Tryz.prog gam S.f308 Tryz.f57 = true := by kernel_rfl
theorem link333 : funM Tryz.prog gam S.f333 Tryz.f58 = true := by kernel_rfl
theorem link55 : funM Tryz.prog gam S.f55 Tryz.f59 = true := by kernel_rfl
theorem link39 : funM Tryz.prog gam S.f39 Tryz.f60 = true := by kernel_rfl
theorem link30 : funM Tryz.prog gam S.f30 Tryz.f62 = true := by kernel_rfl
theorem link325 : funM Tryz.prog gam S.f325 Tryz.f63 = true := by kernel_rfl
theorem link326 : funM Tryz.prog gam S.f326 Tryz.f64 = true := by kernel_rfl
theorem link327 : funM Tryz.prog gam S.f327 Tryz.f65 = true := by kernel_rfl
theorem link328 : funM Tryz.prog gam S.f328 Tryz.f66 = true := by kernel_rfl
theorem link356 : funM Tryz.prog gam S.f356 Tryz.f69 = true := by kernel_rfl
theorem link97 : funM Tryz.prog gam S.f97 Tryz.f70 = true := by kernel_rfl
theorem link285 : funM Tryz.prog gam S.f285 Tryz.f71 = true := by kernel_rfl
theorem link286 : funM Tryz.prog gam S.f286 Tryz.f72 = true := by kernel_rfl
theorem link287 : funM Tryz.prog gam S.f287 Tryz.f73 = true := by kernel_rfl
theorem link288 : funM Tryz.prog gam S.f288 Tryz.f74 = true := by kernel_rfl
theorem link455 : funM Tryz.prog gam S.f455 Tryz.f75 = true := by kernel_rfl
theorem link357 : funM Tryz.prog gam S.f357 Tryz.f76 = true := by kernel_rfl
theorem link359 : funM Tryz.prog gam S.f359 Tryz.f77 = true := by kernel_rfl
theorem link335 : funM Tryz.prog gam S.f335 Tryz.f82 = true := by kernel_rfl
theorem link336 : funM Tryz.prog gam S.f336 Tryz.f83 = true := by kernel_rfl
theorem link340 : funM Tryz.prog gam S.f340 Tryz.f84 = true := by kernel_rfl
theorem link339 : funM Tryz.prog gam S.f339 Tryz.f85 = true := by kernel_rfl
theorem link65 : funM Tryz.prog gam S.f65 Tryz.f87 = true := by kernel_rfl
theorem link17 : funM Tryz.prog gam S.f17 Tryz.f92 = true := by kernel_rfl
theorem link331 : funM Tryz.prog gam S.f331 Tryz.f93 = true := by kernel_rfl
theorem link377 : funM Tryz.prog gam S.f377 Tryz.f94 = true := by kernel_rfl
theorem link36 : funM Tryz.prog gam S.f36 Tryz.f95 = true := by kernel_rfl
theorem link342 : funM Tryz.prog gam S.f342 Tryz.f96 = true := by kernel_rfl
theorem link43 : funM Tryz.prog gam S.f43 Tryz.f98 = true := by kernel_rfl
theorem link41 : funM Tryz.prog gam S.f41 Tryz.f99 = true := by kernel_rfl
theorem link45 : funM Tryz.prog gam S.f45 Tryz.f100 = true := by kernel_rfl
theorem link344 : funM Tryz.prog gam S.f344 Tryz.f101 = true := by kernel_rfl
theorem link219 : funM Tryz.prog gam S.f219 Tryz.f111 = true := by kernel_rfl
theorem link294 : funM Tryz.prog gam S.f294 Tryz.f112 = true := by kernel_rfl
theorem link295 : funM Tryz.prog gam S.f295 Tryz.f113 = true := by kernel_rfl
theorem link297 : funM Tryz.prog gam S.f297 Tryz.f114 = true := by kernel_rfl
theorem link296 : funM Tryz.prog gam S.f296 Tryz.f115 = true := by kernel_rfl
theorem link235 : funM Tryz.prog gam S.f235 Tryz.f116 = true := by kernel_rfl
theorem link298 : funM Tryz.prog gam S.f298 Tryz.f117 = true := by kernel_rfl
theorem link379 : funM Tryz.prog gam S.f379 Tryz.f118 = true := by kernel_rfl
theorem link360 : funM Tryz.prog gam S.f360 Tryz.f123 = true := by kernel_rfl
theorem link361 : funM Tryz.prog gam S.f361 Tryz.f124 = true := by kernel_rfl
theorem link362 : funM Tryz.prog gam S.f362 Tryz.f125 = true := by kernel_rfl
theorem link56 : funM Tryz.prog gam S.f56 Tryz.f129 = true := by kernel_rfl
theorem link354 : funM Tryz.prog gam S.f354 Tryz.f130 = true := by kernel_rfl
theorem link363 : funM Tryz.prog gam S.f363 Tryz.f133 = true := by kernel_rfl
theorem link364 : funM Tryz.prog gam S.f364 Tryz.f134 = true := by kernel_rfl
theorem link224 : funM Tryz.prog gam S.f224 Tryz.f150 = true := by kernel_rfl
theorem link225 : funM Tryz.prog gam S.f225 Tryz.f151 = true := by kernel_rfl
theorem link61 : funM Tryz.prog gam S.f61 Tryz.f152 = true := by kernel_rfl
theorem link223 : funM Tryz.prog gam S.f223 Tryz.f153 = true := by kernel_rfl
theorem link301 : funM Tryz.prog gam S.f301 Tryz.f154 = true := by kernel_rfl
theorem link238 : funM Tryz.prog gam S.f238 Tryz.f155 = true := by kernel_rfl
theorem link382 : funM Tryz.prog gam S.f382 Tryz.f159 = true := by kernel_rfl
theorem link381 : funM Tryz.prog gam S.f381 Tryz.f160 = true := by kernel_rfl
theorem link384 : funM Tryz.prog gam S.f384 Tryz.f164 = true := by kernel_rfl
theorem link234 : funM Tryz.prog gam S.f234 Tryz.f181 = true := by kernel_rfl
theorem link399 : funM Tryz.prog gam S.f399 Tryz.f188 = true := by kernel_rfl
theorem link188 : funM Tryz.prog gam S.f188 Tryz.f198 = true := by kernel_rfl
theorem link408 : funM Tryz.prog gam S.f408 Tryz.f201 = true := by kernel_rfl

theorem lk_mem {α : Type} : ∀ (l : List (Nat × α)) (i : Nat) (v : α), S.lk l i = some v → (i, v) ∈ l
  | [], i, v, h => by cases h
  | (k, u) :: r, i, v, h => by
    unfold S.lk at h
    cases hb : Nat.beq i k with
    | true =>
      rw [hb] at h
      have := Nat.eq_of_beq_eq_true hb
      subst this
      cases h
      exact List.mem_cons_self
    | false => rw [hb] at h; exact List.mem_cons_of_mem _ (lk_mem r i v h)

theorem lkYes {g fid : Nat} {sf : SFunc} {fn : Func} (h1 : S.pg g = some sf) (h2 : Tryz.prog.funcs[fid]? = some fn) (h3 : funM Tryz.prog gam sf fn = true) : ∀ sf', S.pg g = some sf' → ∃ fn, Tryz.prog.funcs[fid]? = some fn ∧ funM Tryz.prog gam sf' fn = true :=
  fun sf' h => by rw [h1] at h; cases h; exact ⟨fn, h2, h3⟩
theorem lkNo {g fid : Nat} (h1 : S.pg g = none) : ∀ sf', S.pg g = some sf' → ∃ fn, Tryz.prog.funcs[fid]? = some fn ∧ funM Tryz.prog gam sf' fn = true :=
  fun sf' h => by rw [h1] at h; cases h
theorem allN {p : Nat × Nat → Prop} : ∀ x ∈ ([] : List (Nat × Nat)), p x := fun _ h => by cases h
theorem allC {p : Nat × Nat → Prop} {a : Nat × Nat} {l : List (Nat × Nat)} (h : p a) (k : ∀ x ∈ l, p x) : ∀ x ∈ a :: l, p x := fun x hx => by
  rcases List.mem_cons.1 hx with rfl | hx
  · exact h
  · exact k x hx

set_option maxRecDepth 100000 in
theorem linkedAll : ∀ x ∈ gtbl, ∀ sf', S.pg x.1 = some sf' → ∃ fn, Tryz.prog.funcs[x.2]? = some fn ∧ funM Tryz.prog gam sf' fn = true :=
  allC (lkYes S.pg475 Tryz.func3 link475) <|
  allC (lkYes S.pg476 Tryz.func6 link476) <|
  allC (lkYes S.pg436 Tryz.func7 link436) <|
  allC (lkYes S.pg477 Tryz.func8 link477) <|
  allC (lkYes S.pg478 Tryz.func9 link478) <|
  allC (lkYes S.pg441 Tryz.func11 link441) <|
  allC (lkYes S.pg442 Tryz.func12 link442) <|
  allC (lkYes S.pg443 Tryz.func13 link443) <|
  allC (lkYes S.pg314 Tryz.func14 link314) <|
  allC (lkYes S.pg315 Tryz.func15 link315) <|
  allC (lkYes S.pg52 Tryz.func16 link52) <|
  allC (lkYes S.pg481 Tryz.func17 link481) <|
  allC (lkYes S.pg434 Tryz.func18 link434) <|
  allC (lkYes S.pg265 Tryz.func19 link265) <|
  allC (lkYes S.pg447 Tryz.func20 link447) <|
  allC (lkYes S.pg318 Tryz.func21 link318) <|
  allC (lkYes S.pg305 Tryz.func24 link305) <|
  allC (lkYes S.pg444 Tryz.func25 link444) <|
  allC (lkYes S.pg306 Tryz.func26 link306) <|
  allC (lkYes S.pg449 Tryz.func27 link449) <|
  allC (lkYes S.pg309 Tryz.func28 link309) <|
  allC (lkYes S.pg312 Tryz.func29 link312) <|
  allC (lkYes S.pg310 Tryz.func30 link310) <|
  allC (lkYes S.pg450 Tryz.func31 link450) <|
  allC (lkYes S.pg307 Tryz.func32 link307) <|
  allC (lkYes S.pg316 Tryz.func33 link316) <|
  allC (lkYes S.pg334 Tryz.func34 link334) <|
  allC (lkYes S.pg483 Tryz.func35 link483) <|
  allC (lkYes S.pg273 Tryz.func36 link273) <|
  allC (lkYes S.pg452 Tryz.func37 link452) <|
  allC (lkYes S.pg451 Tryz.func38 link451) <|
  allC (lkYes S.pg338 Tryz.func39 link338) <|
  allC (lkYes S.pg337 Tryz.func40 link337) <|
  allC (lkYes S.pg358 Tryz.func41 link358) <|
  allC (lkYes S.pg317 Tryz.func45 link317) <|
  allC (lkYes S.pg319 Tryz.func46 link319) <|
  allC (lkYes S.pg5 Tryz.func47 link5) <|
  allC (lkYes S.pg320 Tryz.func48 link320) <|
  allC (lkNo rfl) <|
  allC (lkYes S.pg322 Tryz.func50 link322) <|
  allC (lkYes S.pg323 Tryz.func51 link323) <|
  allC (lkYes S.pg6 Tryz.func52 link6) <|
  allC (lkYes S.pg48 Tryz.func53 link48) <|
  allC (lkYes S.pg324 Tryz.func54 link324) <|
  allC (lkYes S.pg454 Tryz.func55 link454) <|
  allC (lkNo rfl) <|
  allC (lkYes S.pg308 Tryz.func57 link308) <|
  allC (lkYes S.pg333 Tryz.func58 link333) <|
  allC (lkYes S.pg55 Tryz.func59 link55) <|
  allC (lkYes S.pg39 Tryz.func60 link39) <|
  allC (lkYes S.pg30 Tryz.func62 link30) <|
  allC (lkYes S.pg325 Tryz.func63 link325) <|
  allC (lkYes S.pg326 Tryz.func64 link326) <|
  allC (lkYes S.pg327 Tryz.func65 link327) <|
  allC (lkYes S.pg328 Tryz.func66 link328) <|
  allC (lkNo rfl) <|
  allC (lkNo rfl) <|
  allC (lkYes S.pg356 Tryz.func69 link356) <|
  allC (lkYes S.pg97 Tryz.func70 link97) <|
  allC (lkYes S.pg285 Tryz.func71 link285) <|
  allC (lkYes S.pg286 Tryz.func72 link286) <|
  allC (lkYes S.pg287 Tryz.func73 link287) <|
  allC (lkYes S.pg288 Tryz.func74 link288) <|
  allC (lkYes S.pg455 Tryz.func75 link455) <|
  allC (lkYes S.pg357 Tryz.func76 link357) <|
  allC (lkYes S.pg359 Tryz.func77 link359) <|
  allC (lkYes S.pg335 Tryz.func82 link335) <|
  allC (lkYes S.pg336 Tryz.func83 link336) <|
  allC (lkYes S.pg340 Tryz.func84 link340) <|
  allC (lkYes S.pg339 Tryz.func85 link339) <|
  allC (lkYes S.pg65 Tryz.func87 link65) <|
  allC (lkNo rfl) <|
  allC (lkNo rfl) <|
  allC (lkYes S.pg17 Tryz.func92 link17) <|
  allC (lkYes S.pg331 Tryz.func93 link331) <|
  allC (lkYes S.pg377 Tryz.func94 link377) <|
  allC (lkYes S.pg36 Tryz.func95 link36) <|
  allC (lkYes S.pg342 Tryz.func96 link342) <|
  allC (lkNo rfl) <|
  allC (lkYes S.pg43 Tryz.func98 link43) <|
  allC (lkYes S.pg41 Tryz.func99 link41) <|
  allC (lkYes S.pg45 Tryz.func100 link45) <|
  allC (lkYes S.pg344 Tryz.func101 link344) <|
  allC (lkNo rfl) <|
  allC (lkYes S.pg219 Tryz.func111 link219) <|
  allC (lkYes S.pg294 Tryz.func112 link294) <|
  allC (lkYes S.pg295 Tryz.func113 link295) <|
  allC (lkYes S.pg297 Tryz.func114 link297) <|
  allC (lkYes S.pg296 Tryz.func115 link296) <|
  allC (lkYes S.pg235 Tryz.func116 link235) <|
  allC (lkYes S.pg298 Tryz.func117 link298) <|
  allC (lkYes S.pg379 Tryz.func118 link379) <|
  allC (lkNo rfl) <|
  allC (lkYes S.pg360 Tryz.func123 link360) <|
  allC (lkYes S.pg361 Tryz.func124 link361) <|
  allC (lkYes S.pg362 Tryz.func125 link362) <|
  allC (lkNo rfl) <|
  allC (lkYes S.pg56 Tryz.func129 link56) <|
  allC (lkYes S.pg354 Tryz.func130 link354) <|
  allC (lkNo rfl) <|
  allC (lkNo rfl) <|
  allC (lkYes S.pg363 Tryz.func133 link363) <|
  allC (lkYes S.pg364 Tryz.func134 link364) <|
  allC (lkYes S.pg224 Tryz.func150 link224) <|
  allC (lkYes S.pg225 Tryz.func151 link225) <|
  allC (lkYes S.pg61 Tryz.func152 link61) <|
  allC (lkYes S.pg223 Tryz.func153 link223) <|
  allC (lkYes S.pg301 Tryz.func154 link301) <|
  allC (lkYes S.pg238 Tryz.func155 link238) <|
  allC (lkYes S.pg382 Tryz.func159 link382) <|
  allC (lkYes S.pg381 Tryz.func160 link381) <|
  allC (lkYes S.pg384 Tryz.func164 link384) <|
  allC (lkNo rfl) <|
  allC (lkNo rfl) <|
  allC (lkNo rfl) <|
  allC (lkNo rfl) <|
  allC (lkYes S.pg234 Tryz.func181 link234) <|
  allC (lkYes S.pg399 Tryz.func188 link399) <|
  allC (lkNo rfl) <|
  allC (lkNo rfl) <|
  allC (lkNo rfl) <|
  allC (lkNo rfl) <|
  allC (lkNo rfl) <|
  allC (lkNo rfl) <|
  allC (lkNo rfl) <|
  allC (lkNo rfl) <|
  allC (lkNo rfl) <|
  allC (lkYes S.pg188 Tryz.func198 link188) <|
  allC (lkYes S.pg408 Tryz.func201 link408) <|
  allC (lkNo rfl) <|
  allC (lkNo rfl) <|
  allN

theorem linked : Linked Tryz.prog gam S.pg := fun f fid hf sf hs => linkedAll (f, fid) (lk_mem gtbl f fid hf) sf hs

set_option maxRecDepth 100000 in
theorem goodAll : ∀ x ∈ gtbl, ∃ fn, Tryz.prog.funcs[x.2]? = some fn ∧ fn.body.isNone = false ∧ (fn.name == "runtime.NumGoroutine") = false :=
  allC ⟨_, Tryz.func3, by kernel_rfl, by kernel_rfl⟩ <|
  allC ⟨_, Tryz.func6, by kernel_rfl, by kernel_rfl⟩ <|
  allC ⟨_, Tryz.func7, by kernel_rfl, by kernel_rfl⟩ <|
  allC ⟨_, Tryz.func8, by kernel_rfl, by kernel_rfl⟩ <|
  allC ⟨_, Tryz.func9, by kernel_rfl, by kernel_rfl⟩ <|
  allC ⟨_, Tryz.func11, by kernel_rfl, by kernel_rfl⟩ <|
  allC ⟨_, Tryz.func12, by kernel_rfl, by kernel_rfl⟩ <|
  allC ⟨_, Tryz.func13, by kernel_rfl, by kernel_rfl⟩ <|
  allC ⟨_, Tryz.func14, by kernel_rfl, by kernel_rfl⟩ <|
  allC ⟨_, Tryz.func15, by kernel_rfl, by kernel_rfl⟩ <|
  allC ⟨_, Tryz.func16, by kernel_rfl, by kernel_rfl⟩ <|
  allC ⟨_, Tryz.func17, by kernel_rfl, by kernel_rfl⟩ <|
  allC ⟨_, Tryz.func18, by kernel_rfl, by kernel_rfl⟩ <|
  allC ⟨_, Tryz.func19, by kernel_rfl, by kernel_rfl⟩ <|
  allC ⟨_, Tryz.func20, by kernel_rfl, by kernel_rfl⟩ <|
  allC ⟨_, Tryz.func21, by kernel_rfl, by kernel_rfl⟩ <|
  allC ⟨_, Tryz.func24, by kernel_rfl, by kernel_rfl⟩ <|
  allC ⟨_, Tryz.func25, by kernel_rfl, by kernel_rfl⟩ <|
  allC ⟨_, Tryz.func26, by kernel_rfl, by kernel_rfl⟩ <|
  allC ⟨_, Tryz.func27, by kernel_rfl, by kernel_rfl⟩ <|
  allC ⟨_, Tryz.func28, by kernel_rfl, by kernel_rfl⟩ <|
  allC ⟨_, Tryz.func29, by kernel_rfl, by kernel_rfl⟩ <|
  allC ⟨_, Tryz.func30, by kernel_rfl, by kernel_rfl⟩ <|
  allC ⟨_, Tryz.func31, by kernel_rfl, by kernel_rfl⟩ <|
  allC ⟨_, Tryz.func32, by kernel_rfl, by kernel_rfl⟩ <|
  allC ⟨_, Tryz.func33, by kernel_rfl, by kernel_rfl⟩ <|
  allC ⟨_, Tryz.func34, by kernel_rfl, by kernel_rfl⟩ <|
  allC ⟨_, Tryz.func35, by kernel_rfl, by kernel_rfl⟩ <|
  allC ⟨_, Tryz.func36, by kernel_rfl, by kernel_rfl⟩ <|
  allC ⟨_, Tryz.func37, by kernel_rfl, by kernel_rfl⟩ <|
  allC ⟨_, Tryz.func38, by kernel_rfl, by kernel_rfl⟩ <|
  allC ⟨_, Tryz.func39, by kernel_rfl, by kernel_rfl⟩ <|
  allC ⟨_, Tryz.func40, by kernel_rfl, by kernel_rfl⟩ <|
  allC ⟨_, Tryz.func41, by kernel_rfl, by kernel_rfl⟩ <|
  allC ⟨_, Tryz.func45, by kernel_rfl, by kernel_rfl⟩ <|
  allC ⟨_, Tryz.func46, by kernel_rfl, by kernel_rfl⟩ <|
  allC ⟨_, Tryz.func47, by kernel_rfl, by kernel_rfl⟩ <|
  allC ⟨_, Tryz.func48, by kernel_rfl, by kernel_rfl⟩ <|
  allC ⟨_, Tryz.func49, by kernel_rfl, by kernel_rfl⟩ <|
  allC ⟨_, Tryz.func50, by kernel_rfl, by kernel_rfl⟩ <|
  allC ⟨_, Tryz.func51, by kernel_rfl, by kernel_rfl⟩ <|
  allC ⟨_, Tryz.func52, by kernel_rfl, by kernel_rfl⟩ <|
  allC ⟨_, Tryz.func53, by kernel_rfl, by kernel_rfl⟩ <|
  allC ⟨_, Tryz.func54, by kernel_rfl, by kernel_rfl⟩ <|
  allC ⟨_, Tryz.func55, by kernel_rfl, by kernel_rfl⟩ <|
  allC ⟨_, Tryz.func56, by kernel_rfl, by kernel_rfl⟩ <|
  allC ⟨_, Tryz.func57, by kernel_rfl, by kernel_rfl⟩ <|
  allC ⟨_, Tryz.func58, by kernel_rfl, by kernel_rfl⟩ <|
  allC ⟨_, Tryz.func59, by kernel_rfl, by kernel_rfl⟩ <|
  allC ⟨_, Tryz.func60, by kernel_rfl, by kernel_rfl⟩ <|
  allC ⟨_, Tryz.func62, by kernel_rfl, by kernel_rfl⟩ <|
  allC ⟨_, Tryz.func63, by kernel_rfl, by kernel_rfl⟩ <|
  allC ⟨_, Tryz.func64, by kernel_rfl, by kernel_rfl⟩ <|
  allC ⟨_, Tryz.func65, by kernel_rfl, by kernel_rfl⟩ <|
  allC ⟨_, Tryz.func66, by kernel_rfl, by kernel_rfl⟩ <|
  allC ⟨_, Tryz.func67, by kernel_rfl, by kernel_rfl⟩ <|
  allC ⟨_, Tryz.func68, by kernel_rfl, by kernel_rfl⟩ <|
  allC ⟨_, Tryz.func69, by kernel_rfl, by kernel_rfl⟩ <|
  allC ⟨_, Tryz.func70, by kernel_rfl, by kernel_rfl⟩ <|
  allC ⟨_, Tryz.func71, by kernel_rfl, by kernel_rfl⟩ <|
  allC ⟨_, Tryz.func72, by kernel_rfl, by kernel_rfl⟩ <|
  allC ⟨_, Tryz.func73, by kernel_rfl, by kernel_rfl⟩ <|
  allC ⟨_, Tryz.func74, by kernel_rfl, by kernel_rfl⟩ <|
  allC ⟨_, Tryz.func75, by kernel_rfl, by kernel_rfl⟩ <|
  allC ⟨_, Tryz.func76, by kernel_rfl, by kernel_rfl⟩ <|
  allC ⟨_, Tryz.func77, by kernel_rfl, by kernel_rfl⟩ <|
  allC ⟨_, Tryz.func82, by kernel_rfl, by kernel_rfl⟩ <|
  allC ⟨_, Tryz.func83, by kernel_rfl, by kernel_rfl⟩ <|
  allC ⟨_, Tryz.func84, by kernel_rfl, by kernel_rfl⟩ <|
  allC ⟨_, Tryz.func85, by kernel_rfl, by kernel_rfl⟩ <|
  allC ⟨_, Tryz.func87, by kernel_rfl, by kernel_rfl⟩ <|
  allC ⟨_, Tryz.func88, by kernel_rfl, by kernel_rfl⟩ <|
  allC ⟨_, Tryz.func90, by kernel_rfl, by kernel_rfl⟩ <|
  allC ⟨_, Tryz.func92, by kernel_rfl, by kernel_rfl⟩ <|
  allC ⟨_, Tryz.func93, by kernel_rfl, by kernel_rfl⟩ <|
  allC ⟨_, Tryz.func94, by kernel_rfl, by kernel_rfl⟩ <|
  allC ⟨_, Tryz.func95, by kernel_rfl, by kernel_rfl⟩ <|
  allC ⟨_, Tryz.func96, by kernel_rfl, by kernel_rfl⟩ <|
  allC ⟨_, Tryz.func97, by kernel_rfl, by kernel_rfl⟩ <|
  allC ⟨_, Tryz.func98, by kernel_rfl, by kernel_rfl⟩ <|
  allC ⟨_, Tryz.func99, by kernel_rfl, by kernel_rfl⟩ <|
  allC ⟨_, Tryz.func100, by kernel_rfl, by kernel_rfl⟩ <|
  allC ⟨_, Tryz.func101, by kernel_rfl, by kernel_rfl⟩ <|
  allC ⟨_, Tryz.func110, by kernel_rfl, by kernel_rfl⟩ <|
  allC ⟨_, Tryz.func111, by kernel_rfl, by kernel_rfl⟩ <|
  allC ⟨_, Tryz.func112, by kernel_rfl, by kernel_rfl⟩ <|
  allC ⟨_, Tryz.func113, by kernel_rfl, by kernel_rfl⟩ <|
  allC ⟨_, Tryz.func114, by kernel_rfl, by kernel_rfl⟩ <|
  allC ⟨_, Tryz.func115, by kernel_rfl, by kernel_rfl⟩ <|
  allC ⟨_, Tryz.func116, by kernel_rfl, by kernel_rfl⟩ <|
  allC ⟨_, Tryz.func117, by kernel_rfl, by kernel_rfl⟩ <|
  allC ⟨_, Tryz.func118, by kernel_rfl, by kernel_rfl⟩ <|
  allC ⟨_, Tryz.func119, by kernel_rfl, by kernel_rfl⟩ <|
  allC ⟨_, Tryz.func123, by kernel_rfl, by kernel_rfl⟩ <|
  allC ⟨_, Tryz.func124, by kernel_rfl, by kernel_rfl⟩ <|
  allC ⟨_, Tryz.func125, by kernel_rfl, by kernel_rfl⟩ <|
  allC ⟨_, Tryz.func126, by kernel_rfl, by kernel_rfl⟩ <|
  allC ⟨_, Tryz.func129, by kernel_rfl, by kernel_rfl⟩ <|
  allC ⟨_, Tryz.func130, by kernel_rfl, by kernel_rfl⟩ <|
  allC ⟨_, Tryz.func131, by kernel_rfl, by kernel_rfl⟩ <|
  allC ⟨_, Tryz.func132, by kernel_rfl, by kernel_rfl⟩ <|
  allC ⟨_, Tryz.func133, by kernel_rfl, by kernel_rfl⟩ <|
  allC ⟨_, Tryz.func134, by kernel_rfl, by kernel_rfl⟩ <|
  allC ⟨_, Tryz.func150, by kernel_rfl, by kernel_rfl⟩ <|
  allC ⟨_, Tryz.func151, by kernel_rfl, by kernel_rfl⟩ <|
  allC ⟨_, Tryz.func152, by kernel_rfl, by kernel_rfl⟩ <|
  allC ⟨_, Tryz.func153, by kernel_rfl, by kernel_rfl⟩ <|
  allC ⟨_, Tryz.func154, by kernel_rfl, by kernel_rfl⟩ <|
  allC ⟨_, Tryz.func155, by kernel_rfl, by kernel_rfl⟩ <|
  allC ⟨_, Tryz.func159, by kernel_rfl, by kernel_rfl⟩ <|
  allC ⟨_, Tryz.func160, by kernel_rfl, by kernel_rfl⟩ <|
  allC ⟨_, Tryz.func164, by kernel_rfl, by kernel_rfl⟩ <|
  allC ⟨_, Tryz.func165, by kernel_rfl, by kernel_rfl⟩ <|
  allC ⟨_, Tryz.func166, by kernel_rfl, by kernel_rfl⟩ <|
  allC ⟨_, Tryz.func167, by kernel_rfl, by kernel_rfl⟩ <|
  allC ⟨_, Tryz.func168, by kernel_rfl, by kernel_rfl⟩ <|
  allC ⟨_, Tryz.func181, by kernel_rfl, by kernel_rfl⟩ <|
  allC ⟨_, Tryz.func188, by kernel_rfl, by kernel_rfl⟩ <|
  allC ⟨_, Tryz.func189, by kernel_rfl, by kernel_rfl⟩ <|
  allC ⟨_, Tryz.func190, by kernel_rfl, by kernel_rfl⟩ <|
  allC ⟨_, Tryz.func191, by kernel_rfl, by kernel_rfl⟩ <|
  allC ⟨_, Tryz.func192, by kernel_rfl, by kernel_rfl⟩ <|
  allC ⟨_, Tryz.func193, by kernel_rfl, by kernel_rfl⟩ <|
  allC ⟨_, Tryz.func194, by kernel_rfl, by kernel_rfl⟩ <|
  allC ⟨_, Tryz.func195, by kernel_rfl, by kernel_rfl⟩ <|
  allC ⟨_, Tryz.func196, by kernel_rfl, by kernel_rfl⟩ <|
  allC ⟨_, Tryz.func197, by kernel_rfl, by kernel_rfl⟩ <|
  allC ⟨_, Tryz.func198, by kernel_rfl, by kernel_rfl⟩ <|
  allC ⟨_, Tryz.func201, by kernel_rfl, by kernel_rfl⟩ <|
  allC ⟨_, Tryz.func22, by kernel_rfl, by kernel_rfl⟩ <|
  allC ⟨_, Tryz.func61, by kernel_rfl, by kernel_rfl⟩ <|
  allN

theorem good : Good Tryz.prog gam := fun g fid h => goodAll (g, fid) (lk_mem gtbl g fid h)

theorem mixed : Tryz.prog.follows .mixedOrders = true := by kernel_rfl

end Go.Proofs.YtlndogibbgibgaaGreatDoor
