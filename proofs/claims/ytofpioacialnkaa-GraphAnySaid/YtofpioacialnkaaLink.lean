/-
  Each clean text is that of the model's function: printed by a program, tested by Lean's kernel.
-/
import Derived.Test.YtofpioacialnkaaCl15
import Derived.Test.YtofpioacialnkaaS
import Derived.Test.YtofpioacialnkaaChecked
import Derived.KernelRfl
namespace Go.Proofs.Ytofpioacialnkaa
open Go Go.Cl

def gtbl : List (Nat × Nat) := [
  (3, 3),
  (7, 4),
  (9, 5),
  (15, 6),
  (23, 7),
  (24, 8),
  (25, 9),
  (26, 10),
  (47, 11),
  (49, 12),
  (50, 13),
  (4, 14),
  (5, 15),
  (6, 16),
  (8, 17),
  (11, 18),
  (10, 19),
  (12, 20),
  (13, 21),
  (14, 22),
  (16, 23),
  (20, 24),
  (17, 25),
  (19, 26),
  (18, 27),
  (21, 28),
  (22, 29),
  (27, 30),
  (28, 31),
  (29, 32),
  (30, 33),
  (31, 34),
  (33, 35),
  (32, 36),
  (34, 37),
  (35, 38),
  (36, 39),
  (37, 40),
  (38, 41),
  (39, 42),
  (40, 43),
  (41, 44),
  (42, 45),
  (43, 46),
  (44, 47),
  (45, 48),
  (46, 49),
  (48, 50),
  (51, 51),
  (52, 52),
  (53, 53),
  (55, 55),
  (56, 56),
  (57, 57),
  (58, 58),
  (59, 59),
  (60, 60),
  (61, 61),
  (62, 62),
  (63, 63),
  (64, 64),
  (65, 65),
  (66, 66),
  (67, 68),
  (68, 69),
  (69, 70),
  (2, 2),
  (54, 54)]

def ttbl : List (Nat × Nat) := [(0, 105)]

def gam : Gam where
  F := S.lk gtbl
  T := fun t => (S.lk ttbl t).getD 0

theorem link3 : funM Try.prog gam S.f3 Try.f3 = true := by kernel_rfl
theorem link7 : funM Try.prog gam S.f7 Try.f4 = true := by kernel_rfl
theorem link9 : funM Try.prog gam S.f9 Try.f5 = true := by kernel_rfl
theorem link15 : funM Try.prog gam S.f15 Try.f6 = true := by kernel_rfl
theorem link23 : funM Try.prog gam S.f23 Try.f7 = true := by kernel_rfl
theorem link24 : funM Try.prog gam S.f24 Try.f8 = true := by kernel_rfl
theorem link25 : funM Try.prog gam S.f25 Try.f9 = true := by kernel_rfl
theorem link26 : funM Try.prog gam S.f26 Try.f10 = true := by kernel_rfl
theorem link47 : funM Try.prog gam S.f47 Try.f11 = true := by kernel_rfl
theorem link49 : funM Try.prog gam S.f49 Try.f12 = true := by kernel_rfl
theorem link50 : funM Try.prog gam S.f50 Try.f13 = true := by kernel_rfl
theorem link4 : funM Try.prog gam S.f4 Try.f14 = true := by kernel_rfl
theorem link5 : funM Try.prog gam S.f5 Try.f15 = true := by kernel_rfl
theorem link6 : funM Try.prog gam S.f6 Try.f16 = true := by kernel_rfl
theorem link8 : funM Try.prog gam S.f8 Try.f17 = true := by kernel_rfl
theorem link11 : funM Try.prog gam S.f11 Try.f18 = true := by kernel_rfl
theorem link10 : funM Try.prog gam S.f10 Try.f19 = true := by kernel_rfl
theorem link12 : funM Try.prog gam S.f12 Try.f20 = true := by kernel_rfl
theorem link13 : funM Try.prog gam S.f13 Try.f21 = true := by kernel_rfl
theorem link14 : funM Try.prog gam S.f14 Try.f22 = true := by kernel_rfl
theorem link16 : funM Try.prog gam S.f16 Try.f23 = true := by kernel_rfl
theorem link20 : funM Try.prog gam S.f20 Try.f24 = true := by kernel_rfl
theorem link17 : funM Try.prog gam S.f17 Try.f25 = true := by kernel_rfl
theorem link19 : funM Try.prog gam S.f19 Try.f26 = true := by kernel_rfl
theorem link18 : funM Try.prog gam S.f18 Try.f27 = true := by kernel_rfl
theorem link21 : funM Try.prog gam S.f21 Try.f28 = true := by kernel_rfl
theorem link22 : funM Try.prog gam S.f22 Try.f29 = true := by kernel_rfl
theorem link27 : funM Try.prog gam S.f27 Try.f30 = true := by kernel_rfl
theorem link28 : funM Try.prog gam S.f28 Try.f31 = true := by kernel_rfl
theorem link29 : funM Try.prog gam S.f29 Try.f32 = true := by kernel_rfl
theorem link30 : funM Try.prog gam S.f30 Try.f33 = true := by kernel_rfl
theorem link31 : funM Try.prog gam S.f31 Try.f34 = true := by kernel_rfl
theorem link33 : funM Try.prog gam S.f33 Try.f35 = true := by kernel_rfl
theorem link32 : funM Try.prog gam S.f32 Try.f36 = true := by kernel_rfl
theorem link34 : funM Try.prog gam S.f34 Try.f37 = true := by kernel_rfl
theorem link35 : funM Try.prog gam S.f35 Try.f38 = true := by kernel_rfl
theorem link36 : funM Try.prog gam S.f36 Try.f39 = true := by kernel_rfl
theorem link37 : funM Try.prog gam S.f37 Try.f40 = true := by kernel_rfl
theorem link38 : funM Try.prog gam S.f38 Try.f41 = true := by kernel_rfl
theorem link39 : funM Try.prog gam S.f39 Try.f42 = true := by kernel_rfl
theorem link40 : funM Try.prog gam S.f40 Try.f43 = true := by kernel_rfl
theorem link41 : funM Try.prog gam S.f41 Try.f44 = true := by kernel_rfl
theorem link42 : funM Try.prog gam S.f42 Try.f45 = true := by kernel_rfl
theorem link43 : funM Try.prog gam S.f43 Try.f46 = true := by kernel_rfl
theorem link44 : funM Try.prog gam S.f44 Try.f47 = true := by kernel_rfl
theorem link45 : funM Try.prog gam S.f45 Try.f48 = true := by kernel_rfl
theorem link46 : funM Try.prog gam S.f46 Try.f49 = true := by kernel_rfl
theorem link48 : funM Try.prog gam S.f48 Try.f50 = true := by kernel_rfl
theorem link51 : funM Try.prog gam S.f51 Try.f51 = true := by kernel_rfl
theorem link52 : funM Try.prog gam S.f52 Try.f52 = true := by kernel_rfl
theorem link53 : funM Try.prog gam S.f53 Try.f53 = true := by kernel_rfl
theorem link55 : funM Try.prog gam S.f55 Try.f55 = true := by kernel_rfl
theorem link56 : funM Try.prog gam S.f56 Try.f56 = true := by kernel_rfl
theorem link57 : funM Try.prog gam S.f57 Try.f57 = true := by kernel_rfl
theorem link58 : funM Try.prog gam S.f58 Try.f58 = true := by kernel_rfl
theorem link59 : funM Try.prog gam S.f59 Try.f59 = true := by kernel_rfl
theorem link60 : funM Try.prog gam S.f60 Try.f60 = true := by kernel_rfl
theorem link61 : funM Try.prog gam S.f61 Try.f61 = true := by kernel_rfl
theorem link62 : funM Try.prog gam S.f62 Try.f62 = true := by kernel_rfl
theorem link63 : funM Try.prog gam S.f63 Try.f63 = true := by kernel_rfl
theorem link64 : funM Try.prog gam S.f64 Try.f64 = true := by kernel_rfl
theorem link65 : funM Try.prog gam S.f65 Try.f65 = true := by kernel_rfl
theorem link66 : funM Try.prog gam S.f66 Try.f66 = true := by kernel_rfl
theorem link67 : funM Try.prog gam S.f67 Try.f68 = true := by kernel_rfl
theorem link68 : funM Try.prog gam S.f68 Try.f69 = true := by kernel_rfl
theorem link69 : funM Try.prog gam S.f69 Try.f70 = true := by kernel_rfl

theorem lk_mem {α : Type} : ∀ (l : List (Nat × α)) (i : Nat) (v : α), S.lk l i = some v → (i, v) ∈ l
  | [], i, v, h => by cases h
  | (k, u) :: r, i, v, h => by
    unfold S.lk at h
    cases hb : Nat.beq i k with
    | true =>
      rw [hb] at h
      have := Nat.eq_of_beq_eq_true hb
      subst this
      cases h
      exact List.mem_cons_self
    | false => rw [hb] at h; exact List.mem_cons_of_mem _ (lk_mem r i v h)

theorem lkYes {g fid : Nat} {sf : SFunc} {fn : Func} (h1 : S.pg g = some sf) (h2 : Try.prog.funcs[fid]? = some fn) (h3 : funM Try.prog gam sf fn = true) : ∀ sf', S.pg g = some sf' → ∃ fn, Try.prog.funcs[fid]? = some fn ∧ funM Try.prog gam sf' fn = true :=
  fun sf' h => by rw [h1] at h; cases h; exact ⟨fn, h2, h3⟩
theorem lkNo {g fid : Nat} (h1 : S.pg g = none) : ∀ sf', S.pg g = some sf' → ∃ fn, Try.prog.funcs[fid]? = some fn ∧ funM Try.prog gam sf' fn = true :=
  fun sf' h => by rw [h1] at h; cases h
theorem allN {p : Nat × Nat → Prop} : ∀ x ∈ ([] : List (Nat × Nat)), p x := fun _ h => by cases h
theorem allC {p : Nat × Nat → Prop} {a : Nat × Nat} {l : List (Nat × Nat)} (h : p a) (k : ∀ x ∈ l, p x) : ∀ x ∈ a :: l, p x := fun x hx => by
  rcases List.mem_cons.1 hx with rfl | hx
  · exact h
  · exact k x hx

theorem linkedAll : ∀ x ∈ gtbl, ∀ sf', S.pg x.1 = some sf' → ∃ fn, Try.prog.funcs[x.2]? = some fn ∧ funM Try.prog gam sf' fn = true :=
  allC (lkYes S.pg3 Try.func3 link3) <|
  allC (lkYes S.pg7 Try.func4 link7) <|
  allC (lkYes S.pg9 Try.func5 link9) <|
  allC (lkYes S.pg15 Try.func6 link15) <|
  allC (lkYes S.pg23 Try.func7 link23) <|
  allC (lkYes S.pg24 Try.func8 link24) <|
  allC (lkYes S.pg25 Try.func9 link25) <|
  allC (lkYes S.pg26 Try.func10 link26) <|
  allC (lkYes S.pg47 Try.func11 link47) <|
  allC (lkYes S.pg49 Try.func12 link49) <|
  allC (lkYes S.pg50 Try.func13 link50) <|
  allC (lkYes S.pg4 Try.func14 link4) <|
  allC (lkYes S.pg5 Try.func15 link5) <|
  allC (lkYes S.pg6 Try.func16 link6) <|
  allC (lkYes S.pg8 Try.func17 link8) <|
  allC (lkYes S.pg11 Try.func18 link11) <|
  allC (lkYes S.pg10 Try.func19 link10) <|
  allC (lkYes S.pg12 Try.func20 link12) <|
  allC (lkYes S.pg13 Try.func21 link13) <|
  allC (lkYes S.pg14 Try.func22 link14) <|
  allC (lkYes S.pg16 Try.func23 link16) <|
  allC (lkYes S.pg20 Try.func24 link20) <|
  allC (lkYes S.pg17 Try.func25 link17) <|
  allC (lkYes S.pg19 Try.func26 link19) <|
  allC (lkYes S.pg18 Try.func27 link18) <|
  allC (lkYes S.pg21 Try.func28 link21) <|
  allC (lkYes S.pg22 Try.func29 link22) <|
  allC (lkYes S.pg27 Try.func30 link27) <|
  allC (lkYes S.pg28 Try.func31 link28) <|
  allC (lkYes S.pg29 Try.func32 link29) <|
  allC (lkYes S.pg30 Try.func33 link30) <|
  allC (lkYes S.pg31 Try.func34 link31) <|
  allC (lkYes S.pg33 Try.func35 link33) <|
  allC (lkYes S.pg32 Try.func36 link32) <|
  allC (lkYes S.pg34 Try.func37 link34) <|
  allC (lkYes S.pg35 Try.func38 link35) <|
  allC (lkYes S.pg36 Try.func39 link36) <|
  allC (lkYes S.pg37 Try.func40 link37) <|
  allC (lkYes S.pg38 Try.func41 link38) <|
  allC (lkYes S.pg39 Try.func42 link39) <|
  allC (lkYes S.pg40 Try.func43 link40) <|
  allC (lkYes S.pg41 Try.func44 link41) <|
  allC (lkYes S.pg42 Try.func45 link42) <|
  allC (lkYes S.pg43 Try.func46 link43) <|
  allC (lkYes S.pg44 Try.func47 link44) <|
  allC (lkYes S.pg45 Try.func48 link45) <|
  allC (lkYes S.pg46 Try.func49 link46) <|
  allC (lkYes S.pg48 Try.func50 link48) <|
  allC (lkYes S.pg51 Try.func51 link51) <|
  allC (lkYes S.pg52 Try.func52 link52) <|
  allC (lkYes S.pg53 Try.func53 link53) <|
  allC (lkYes S.pg55 Try.func55 link55) <|
  allC (lkYes S.pg56 Try.func56 link56) <|
  allC (lkYes S.pg57 Try.func57 link57) <|
  allC (lkYes S.pg58 Try.func58 link58) <|
  allC (lkYes S.pg59 Try.func59 link59) <|
  allC (lkYes S.pg60 Try.func60 link60) <|
  allC (lkYes S.pg61 Try.func61 link61) <|
  allC (lkYes S.pg62 Try.func62 link62) <|
  allC (lkYes S.pg63 Try.func63 link63) <|
  allC (lkYes S.pg64 Try.func64 link64) <|
  allC (lkYes S.pg65 Try.func65 link65) <|
  allC (lkYes S.pg66 Try.func66 link66) <|
  allC (lkYes S.pg67 Try.func68 link67) <|
  allC (lkYes S.pg68 Try.func69 link68) <|
  allC (lkYes S.pg69 Try.func70 link69) <|
  allC (lkNo rfl) <|
  allC (lkNo rfl) <|
  allN

theorem linked : Linked Try.prog gam S.pg := fun f fid hf sf hs => linkedAll (f, fid) (lk_mem gtbl f fid hf) sf hs

theorem goodAll : ∀ x ∈ gtbl, ∃ fn, Try.prog.funcs[x.2]? = some fn ∧ fn.body.isNone = false ∧ (fn.name == "runtime.NumGoroutine") = false :=
  allC ⟨_, Try.func3, by kernel_rfl, by kernel_rfl⟩ <|
  allC ⟨_, Try.func4, by kernel_rfl, by kernel_rfl⟩ <|
  allC ⟨_, Try.func5, by kernel_rfl, by kernel_rfl⟩ <|
  allC ⟨_, Try.func6, by kernel_rfl, by kernel_rfl⟩ <|
  allC ⟨_, Try.func7, by kernel_rfl, by kernel_rfl⟩ <|
  allC ⟨_, Try.func8, by kernel_rfl, by kernel_rfl⟩ <|
  allC ⟨_, Try.func9, by kernel_rfl, by kernel_rfl⟩ <|
  allC ⟨_, Try.func10, by kernel_rfl, by kernel_rfl⟩ <|
  allC ⟨_, Try.func11, by kernel_rfl, by kernel_rfl⟩ <|
  allC ⟨_, Try.func12, by kernel_rfl, by kernel_rfl⟩ <|
  allC ⟨_, Try.func13, by kernel_rfl, by kernel_rfl⟩ <|
  allC ⟨_, Try.func14, by kernel_rfl, by kernel_rfl⟩ <|
  allC ⟨_, Try.func15, by kernel_rfl, by kernel_rfl⟩ <|
  allC ⟨_, Try.func16, by kernel_rfl, by kernel_rfl⟩ <|
  allC ⟨_, Try.func17, by kernel_rfl, by kernel_rfl⟩ <|
  allC ⟨_, Try.func18, by kernel_rfl, by kernel_rfl⟩ <|
  allC ⟨_, Try.func19, by kernel_rfl, by kernel_rfl⟩ <|
  allC ⟨_, Try.func20, by kernel_rfl, by kernel_rfl⟩ <|
  allC ⟨_, Try.func21, by kernel_rfl, by kernel_rfl⟩ <|
  allC ⟨_, Try.func22, by kernel_rfl, by kernel_rfl⟩ <|
  allC ⟨_, Try.func23, by kernel_rfl, by kernel_rfl⟩ <|
  allC ⟨_, Try.func24, by kernel_rfl, by kernel_rfl⟩ <|
  allC ⟨_, Try.func25, by kernel_rfl, by kernel_rfl⟩ <|
  allC ⟨_, Try.func26, by kernel_rfl, by kernel_rfl⟩ <|
  allC ⟨_, Try.func27, by kernel_rfl, by kernel_rfl⟩ <|
  allC ⟨_, Try.func28, by kernel_rfl, by kernel_rfl⟩ <|
  allC ⟨_, Try.func29, by kernel_rfl, by kernel_rfl⟩ <|
  allC ⟨_, Try.func30, by kernel_rfl, by kernel_rfl⟩ <|
  allC ⟨_, Try.func31, by kernel_rfl, by kernel_rfl⟩ <|
  allC ⟨_, Try.func32, by kernel_rfl, by kernel_rfl⟩ <|
  allC ⟨_, Try.func33, by kernel_rfl, by kernel_rfl⟩ <|
  allC ⟨_, Try.func34, by kernel_rfl, by kernel_rfl⟩ <|
  allC ⟨_, Try.func35, by kernel_rfl, by kernel_rfl⟩ <|
  allC ⟨_, Try.func36, by kernel_rfl, by kernel_rfl⟩ <|
  allC ⟨_, Try.func37, by kernel_rfl, by kernel_rfl⟩ <|
  allC ⟨_, Try.func38, by kernel_rfl, by kernel_rfl⟩ <|
  allC ⟨_, Try.func39, by kernel_rfl, by kernel_rfl⟩ <|
  allC ⟨_, Try.func40, by kernel_rfl, by kernel_rfl⟩ <|
  allC ⟨_, Try.func41, by kernel_rfl, by kernel_rfl⟩ <|
  allC ⟨_, Try.func42, by kernel_rfl, by kernel_rfl⟩ <|
  allC ⟨_, Try.func43, by kernel_rfl, by kernel_rfl⟩ <|
  allC ⟨_, Try.func44, by kernel_rfl, by kernel_rfl⟩ <|
  allC ⟨_, Try.func45, by kernel_rfl, by kernel_rfl⟩ <|
  allC ⟨_, Try.func46, by kernel_rfl, by kernel_rfl⟩ <|
  allC ⟨_, Try.func47, by kernel_rfl, by kernel_rfl⟩ <|
  allC ⟨_, Try.func48, by kernel_rfl, by kernel_rfl⟩ <|
  allC ⟨_, Try.func49, by kernel_rfl, by kernel_rfl⟩ <|
  allC ⟨_, Try.func50, by kernel_rfl, by kernel_rfl⟩ <|
  allC ⟨_, Try.func51, by kernel_rfl, by kernel_rfl⟩ <|
  allC ⟨_, Try.func52, by kernel_rfl, by kernel_rfl⟩ <|
  allC ⟨_, Try.func53, by kernel_rfl, by kernel_rfl⟩ <|
  allC ⟨_, Try.func55, by kernel_rfl, by kernel_rfl⟩ <|
  allC ⟨_, Try.func56, by kernel_rfl, by kernel_rfl⟩ <|
  allC ⟨_, Try.func57, by kernel_rfl, by kernel_rfl⟩ <|
  allC ⟨_, Try.func58, by kernel_rfl, by kernel_rfl⟩ <|
  allC ⟨_, Try.func59, by kernel_rfl, by kernel_rfl⟩ <|
  allC ⟨_, Try.func60, by kernel_rfl, by kernel_rfl⟩ <|
  allC ⟨_, Try.func61, by kernel_rfl, by kernel_rfl⟩ <|
  allC ⟨_, Try.func62, by kernel_rfl, by kernel_rfl⟩ <|
  allC ⟨_, Try.func63, by kernel_rfl, by kernel_rfl⟩ <|
  allC ⟨_, Try.func64, by kernel_rfl, by kernel_rfl⟩ <|
  allC ⟨_, Try.func65, by kernel_rfl, by kernel_rfl⟩ <|
  allC ⟨_, Try.func66, by kernel_rfl, by kernel_rfl⟩ <|
  allC ⟨_, Try.func68, by kernel_rfl, by kernel_rfl⟩ <|
  allC ⟨_, Try.func69, by kernel_rfl, by kernel_rfl⟩ <|
  allC ⟨_, Try.func70, by kernel_rfl, by kernel_rfl⟩ <|
  allC ⟨_, Try.func2, by kernel_rfl, by kernel_rfl⟩ <|
  allC ⟨_, Try.func54, by kernel_rfl, by kernel_rfl⟩ <|
  allN

theorem good : Good Try.prog gam := fun g fid h => goodAll (g, fid) (lk_mem gtbl g fid h)

theorem mixed : Try.prog.follows .mixedOrders = true := by kernel_rfl

end Go.Proofs.Ytofpioacialnkaa
