/-
  Texts laid together: AWord AWordN AWordT AJoin AWordL AWordS ARead.
-/
import Derived.Test.YtlndogibbgibgaaGreatDoorM4
import Derived.Test.YtlndogibbgibgaaGreatDoorM5
import Derived.Test.YtlndogibbgibgaaGreatDoorS
namespace Go.Cl
open Go
set_option linter.unusedSimpArgs false
set_option linter.unusedVariables false
variable {p : PP}
theorem WF_prim {f : Nat} {g : List CV → Heap → Option (CV × Heap)} {vs : List CV} {h h' : Heap} {r : CV} {K : CV → Heap → Prop} (hp : p.pr f = some g) (e : g vs h = some (r, h')) (k : K r h') : WF p f vs h K :=
 ⟨1, r, h', by simp [PP.call, evCall, hp, e], k⟩
@[simp] theorem binStr_eql {a b : List UInt8} : binStr .eql a b = some (.bool (a == b)) := id rfl
@[simp] theorem binStr_neq {a b : List UInt8} : binStr .neq a b = some (.bool (!(a == b))) := id rfl
@[simp] theorem binStr_add {a b : List UInt8} : binStr .add a b = if a.length + b.length ≤ 9223372036854775807 then some (.str (a ++ b)) else none := id rfl
@[simp] theorem binStr_lss {a b : List UInt8} : binStr .lss a b = some (.bool (bytesLess a b)) := id rfl
def knowns : List Nat := [4, 16, 27, 89, 107, 218, 247, 439, 457, 332, 476, 482]
structure LP (p : PP) : Prop where
 pg : p.Pg = S.pg
 pr : ∀ f, knowns.contains f = false → p.pr f = lib f
theorem LP.no (l : LP p) {f : Nat} (h : (knowns.contains f = false) ∧ (lib f).isNone = true) : p.pr f = none := by
 rw [l.pr f h.1]
 cases hl : lib f with
 | none => rfl
 | some g => rw [hl] at h; cases h.2
theorem wordName_spec (lp : LP p) {s : List UInt8} {h : Heap} (hs : s.length ≤ 9223372036854775807) : WF p 97 [.str s] h fun r h' => r = .bool (nameP s) ∧ h' = h := by
 refine WF_of (by rw [lp.pg]; exact S.pg97) (lp.no ⟨rfl, rfl⟩) ?_
 show W p S.b97 _ _ (retQ [.t 2] _)
 unfold S.b97
 by_cases h1 : (1 : Int) ≤ s.length
 ·by_cases h2 : (s.length : Int) ≤ 8
  ·simp [h1, h2]
   refine WF_prim (g := p124) (r := .str (Lib.trimS s lows)) (h' := h) (by rw [lp.pr 124 rfl]; rfl) ?_ ?_
   ·show (if s.length ≤ 9223372036854775807 ∧ _ ∧ _ then some (CV.str (Lib.trimS s lows), h) else none) = _
    rw [if_pos ⟨hs, by decide, by decide⟩]
   ·have h1' : 1 ≤ s.length := by omega
    have h2' : s.length ≤ 8 := by omega
    simp [isEmpty_lows, nameP, h1', h2']
  ·have h2' : ¬ s.length ≤ 8 := by omega
   simp [h1, h2, nameP, h2']
 ·have h1' : ¬ 1 ≤ s.length := by omega
  simp [h1, nameP, h1']
theorem WO_cut {all l : List SOper} {e : Env} {h : Heap} {K : Env → Heap → Prop} (Q : Env → Prop) (w : WO p all l e h fun e' h' => Q e' ∧ h' = h) (k : ∀ e', Q e' → K e' h) : WO p all l e h K :=
 w.mono fun e' h' ⟨a, b⟩ => b ▸ k e' a
theorem Rows.of_flat {α : Type} {e : Cod α} {h : Heap} {P : Nat → Prop} (f : α → List CV) : ∀ (l : List α), (∀ x ∈ l, e.rep h P (f x) x) → Rows e h P (l.flatMap f) l
 | [], _ => Rows.nil
 | x :: l, k => by
   rw [List.flatMap_cons]
   have := (Rows.one (k x (by simp))).append (Rows.of_flat f l fun y hy => k y (by simp [hy]))
   simpa using this
def BldIs (n : Nat) (h : Heap) (B : Nat) (bs : List UInt8) : Prop :=
 n ≤ B ∧ ((bs = [] ∧ h[B]? = some (.bld tBld none)) ∨ ∃ k, n ≤ k ∧ k ≠ B ∧ bs ≠ [] ∧ h[B]? = some (.bld tBld (some (k, bs.length))) ∧ h[k]? = some (.buf tU8 bs))
theorem BldIs.on {n : Nat} {h h' : Heap} {B : Nat} {bs : List UInt8} (s : BldIs n h B bs) (k : Keep NoneOf h h') : BldIs n h' B bs := by
 refine ⟨s.1, ?_⟩
 rcases s.2 with ⟨a, b⟩ | ⟨j, a1, a2, a3, a4, a5⟩
 ·exact .inl ⟨a, k.at b id⟩
 ·exact .inr ⟨j, a1, a2, a3, k.at a4 id, k.at a5 id⟩
theorem Read.drop {h : Heap} {esz : Nat} {v : CV} {l : List CV} (g : Read h esz v l) (he : 0 < esz) (ok : v.ok) {k : IntKind} {m : Nat} (hm : m * esz ≤ l.length) :
  ∃ v' h', slSl h esz v (some (.int k (m : Int))) none = some (v', h') ∧ Read h' esz v' (l.drop (m * esz)) ∧ v'.ok ∧ (∀ b, v'.blk = some b → v.blk = some b ∨ h.length ≤ b) ∧ Keep NoneOf h h' := by
 rcases g with ⟨rfl, rfl⟩ | ⟨b, o, n, c, cs, st, rfl, h1, h2, h3, h4⟩
 ·have h0 : m * esz = 0 := by simpa using hm
  have : m = 0 := by
   rcases Nat.mul_eq_zero.1 h0 with h | h
   ·exact h
   ·omega
  subst this
  exact ⟨.nils, h, by simp [slSl, bound], .inl ⟨rfl, by simp⟩, trivial, fun b hb => .inl hb, Keep.refl _ _⟩
 ·have hok : n ≤ c := ok
  have hmn : m ≤ n := by
   rw [h1] at hm
   exact Nat.le_of_mul_le_mul_right hm he
  have e1 : bound (some (.int k (m : Int))) 0 n = some m := by
   simp only [bound]
   rw [if_pos ⟨by omega, by omega⟩]
   simp
  have e2 : bound none n c = some n := by simp [bound]
  by_cases hc : m = c ∧ m ≠ 0
  ·refine ⟨.sl h.length 0 0 0, h ++ [.arr [] .ro], ?_, .inr ⟨h.length, 0, 0, 0, [], .ro, rfl, ?_, by simp, by simp, ?_⟩, Nat.le_refl 0, fun b hb => .inr (by simp [CV.blk] at hb; omega), Keep.app _ _ _⟩
   ·simp only [slSl]
    rw [if_neg (by omega), e2]
    simp only []
    rw [e1]
    simp only []
    rw [if_pos hc]
   ·have : m * esz = n * esz := by rw [show m = n by omega]
    simp; omega
   ·rw [List.drop_eq_nil_of_le]
    ·simp
    ·have : m = n := by omega
     rw [this, h1]; exact Nat.le_refl _
  ·refine ⟨.sl b (o + m * esz) (n - m) (c - m), h, ?_, .inr ⟨b, o + m * esz, n - m, c - m, cs, st, rfl, ?_, h2, ?_, ?_⟩, show n - m ≤ c - m by omega, fun b' hb => .inl hb, Keep.refl _ _⟩
   ·simp only [slSl]
    rw [if_neg (by omega), e2]
    simp only []
    rw [e1]
    simp only []
    rw [if_neg hc]
   ·rw [List.length_drop, h1, Nat.sub_mul]
   ·have : (n - m) * esz = n * esz - m * esz := Nat.sub_mul _ _ _
    have : m * esz ≤ n * esz := Nat.mul_le_mul_right _ hmn
    omega
   ·rw [h4, List.drop_take, List.drop_drop, Nat.sub_mul]
def RdI (P : Nat → Prop) (h : Heap) (b : Nat) (l : List Wd) (e : Int) : Prop := ∃ v, h[b]? = some (.arr [v, .int .i64 e] .tight) ∧ Sl .str h P v l
def RdP (P : Nat → Prop) (b n : Nat) : Prop := (∀ k, P k → k ≠ b) ∧ ∀ k, n ≤ k → P k
theorem RdP.mono {P : Nat → Prop} {b n n' : Nat} (r : RdP P b n) (h : n ≤ n') : RdP P b n' := ⟨r.1, fun k hk => r.2 k (Nat.le_trans h hk)⟩
theorem RdI.on {P : Nat → Prop} {h h' : Heap} {b : Nat} {l : List Wd} {e : Int} (r : RdI P h b l e) (k : Keep NoneOf h h') : RdI P h' b l e :=
 let ⟨v, a, s⟩ := r; ⟨v, k.at a id, s.on k⟩
theorem RdI.lt {P : Nat → Prop} {h : Heap} {b : Nat} {l : List Wd} {e : Int} (r : RdI P h b l e) : b < h.length := let ⟨_, a, _⟩ := r; lt_of_get a
end Go.Cl
