/-
  Texts laid together: AOpW AOpZ AOpZM AOpA.
-/
import Derived.Test.YtdbakplieenefaaGreatDoorM8
import Derived.Test.YtdbakplieenefaaGreatDoorM9
import Derived.Test.YtdbakplieenefaaGreatDoorM5
namespace Go.Cl
open Go
set_option linter.unusedSimpArgs false
set_option linter.unusedVariables false
set_option maxHeartbeats 1000000
variable {p : PP}
theorem Sl.word {h : Heap} {P : Nat → Prop} {v : CV} {l : List Wd} (s : Sl .str h P v l) {i : Nat} (hi : i < l.length) : ∃ b o, idxAddrV 1 v (.int .i64 i) = some (.ptr b o) ∧ loadAt h b o none = some (.str (at_ l i)) := by
 obtain ⟨b1, o1, row, x1, x2, x3, x4⟩ := s.row (k := .i64) (by decide) hi
 have x4 : row = [.str l[i]] := x4
 have x1 : idxAddrV 1 v (.int .i64 i) = some (.ptr b1 o1) := x1
 have x5 := x3 0 (by decide)
 have hat : at_ l i = l[i] := by simp [at_, List.getElem?_eq_getElem hi]
 rw [x4, ← hat] at x5
 exact ⟨b1, o1, x1, x5⟩
structure RoH (h : Heap) (A O : Nat) (x : OpV) (cv wv : CV) (l : List Wd) (h' : Heap) : Prop where
 k : Keep NoneOf h h'
 a : h'[A]? = some (.arr (oCells op0 .nils) .tight)
 o : h'[O]? = some (.arr (oCells x cv) .tight)
 ow : OwnL caseC h' NoneOf cv x.cases
 ob : ∀ b, cv.blk = some b → h.length ≤ b ∧ b ≠ A ∧ b ≠ O
 s : Sl .str h' (fun k => k ≠ A ∧ k ≠ O ∧ cv.blk ≠ some k) wv l
 a0 : h.length ≤ A
 o0 : h.length ≤ O
 d : A ≠ O
 w : ∀ u ∈ l, u.length < 4294967281
 n : l.length ≤ 200000
section
variable {h h1 h2 : Heap} {A O : Nat} {x : OpV} {cv wv : CV} {l : List Wd}
theorem RoH.on (q : RoH h A O x cv wv l h1) (k : Keep NoneOf h1 h2) : RoH h A O x cv wv l h2 :=
 ⟨q.k.trans k, k.at q.a id, k.at q.o id, q.ow.on k, q.ob, q.s.on k, q.a0, q.o0, q.d, q.w, q.n⟩
theorem RoH.lay (q : RoH h A O x cv wv l h1) (y : OpV) (hy : y.cases = x.cases) : RoH h A O y cv wv l (h1.set O (.arr (oCells y cv) .tight)) := by
 have ke : Keep (fun b => b = O) h1 (h1.set O (.arr (oCells y cv) .tight)) := Keep.set _ _ rfl
 exact ⟨q.k.then ke fun b hb e => by have := q.o0; omega, ke.at q.a q.d, get_set_self (lt_of_get q.o), hy ▸ q.ow.keep ke (fun b hb => (q.ob b hb).2.2) (fun _ hb => hb.elim), q.ob, q.s.keep ke fun k hk => hk.2.1, q.a0, q.o0, q.d, q.w, q.n⟩
theorem RoH.push {c : Case} {n : Nat} {K : CV × Heap → Prop} (q : RoH h A O x cv wv l h1) (hl : x.cases.length ≤ 1000000) (hn : n = 1)
  (kk : ∀ cv' h2, h2[O]? = some (.arr (oCells x cv) .tight) → cv'.scalar = true → RoH h A O { x with cases := x.cases ++ [c] } cv' wv l (h2.set O (.arr (oCells x cv') .tight)) → K (cv', h2)) :
  OV (appendTo (h1 ++ [.arr (caL c) .tight]) 3 cv n (caL c)) K := by
 subst hn
 have kap : Keep NoneOf h1 (h1 ++ [.arr (caL c) .tight]) := Keep.app _ _ _
 refine OV_push (e := caseC) (x := c) (q.ow.on kap) rfl (fun _ hb => hb.elim) (by simp [big]; omega) (by decide) ?_
 intro cv' h2 o2 k2 hb2
 have gO := k2.at (kap.at q.o id) (fun hb => (q.ob _ hb).2.2 rfl)
 have gA := k2.at (kap.at q.a id) (fun hb => (q.ob _ hb).2.1 rfl)
 have hlo := lt_of_get q.o
 have hla := lt_of_get q.a
 have hob : ∀ b, cv'.blk = some b → h.length ≤ b ∧ b ≠ A ∧ b ≠ O := by
  intro b hb
  rcases hb2 b hb with hq | hq
  ·exact q.ob b hq
  ·have := q.k.len
   simp at hq
   exact ⟨by omega, by omega, by omega⟩
 refine kk cv' h2 gO o2.scalar ?_
 have ke : Keep (fun b => b = O) h2 (h2.set O (.arr (oCells x cv') .tight)) := Keep.set _ _ rfl
 have k3 : Keep NoneOf h h2 := (q.k.trans kap).then k2 fun b hb e => by have := q.ob b e; omega
 refine ⟨k3.then ke fun b hb e => by have := q.o0; omega, ke.at gA q.d, get_set_self (lt_of_get gO), o2.keep ke (fun b hb => (hob b hb).2.2) (fun _ hb => hb.elim), hob, ?_, q.a0, q.o0, q.d, q.w, q.n⟩
 refine (((q.s.lt.on kap).keep k2 fun k hk hb => hk.1.2.2 hb).keep ke fun k hk => hk.1.2.1).mono fun k hk => ⟨hk.1.1, hk.1.2.1, fun hb => ?_⟩
 rcases hb2 k hb with hq | hq
 ·exact hk.1.2.2 hq
 ·simp at hq
  omega
end
theorem RoH.new {h h1 h2 : Heap} {A O : Nat} {x : OpV} {cv wv : CV} {l : List Wd} (q : RoH h A O x cv wv l h1) (k : Keep (fun b => b = h1.length) h1 h2) : RoH h A O x cv wv l h2 :=
 q.on (k.mono fun i hi e => by omega)
structure RoC (h : Heap) (A O b : Nat) (x : OpV) (cv wv : CV) (l : List Wd) (i : Nat) (n : Int) (C : Case) (e2 : Int) (i2 : Nat) (h' : Heap) : Prop where
 q : RoH h A O x cv wv l h'
 c : h'[b]? = some (.arr (caL C) .tight)
 d : (at_ l i = wSend ∧ C = ⟨true, clamp40 n, (numP (at_ l (i + 2))).1⟩ ∧ e2 = (numP (at_ l (i + 2))).2 ∧ i2 = i + 1) ∨ (at_ l i ≠ wSend ∧ C = ⟨false, clamp40 n, 0⟩ ∧ e2 = 0 ∧ i2 = i)
set_option maxHeartbeats 2000000
theorem numR_inI (e : Int) (a : Wd) : inI (numR e a).1 := by
 unfold numR
 split
 ·exact numP_in a
 ·exact ⟨by simp, by simp⟩
theorem runP_in : ∀ (n : Nat) (l : List Wd) (acc : List Case) (e : Int), l.length ≤ n → (∀ c ∈ acc, inI c.v) → ∀ c ∈ (runP l acc e).1, inI c.v := by
 intro n
 induction n with
 | zero =>
   intro l acc e hl ha
   have : l = [] := List.eq_nil_of_length_eq_zero (by omega)
   subst this
   exact ha
 | succ n ih =>
   intro l acc e hl ha
   match l, hl with
   | [], _ => exact ha
   | [_], _ => exact ha
   | [w, a], hl =>
     by_cases hw : w = wSend
     ·rw [runP, if_pos hw]; exact ha
     ·rw [runP, if_neg hw]
      intro c hc
      rcases List.mem_append.1 hc with hc | hc
      ·exact ha c hc
      ·simp at hc; subst hc; exact ⟨by simp, by simp⟩
   | w :: a :: b :: r, hl =>
     by_cases hw : w = wSend
     ·subst hw
      rw [runP_send]
      refine ih _ _ _ (by simp at hl; omega) fun c hc => ?_
      rcases List.mem_append.1 hc with hc | hc
      ·exact ha c hc
      ·simp at hc; subst hc; exact numR_inI _ _
     ·rw [runP_other hw]
      refine ih _ _ _ (by simp at hl ⊢; omega) fun c hc => ?_
      rcases List.mem_append.1 hc with hc | hc
      ·exact ha c hc
      ·simp at hc; subst hc; exact ⟨by simp, by simp⟩
theorem OpOk.In {x : OpV} (o : OpOk x) (f : x.fine) : x.In := by
 have hn := o.n0
 have hm := o.n1
 have h1 := leastOf_ge x.kind
 have h2 := mostOf_le x.kind
 have hc : ∀ c ∈ x.cases, inI c.chan := fun c hc => by
  by_cases h7 : x.kind = 7
  ·have := caseBad_not (cases_valid (o.c7 h7) c hc)
   exact ⟨by omega, by omega⟩
  ·rw [o.c h7] at hc; simp at hc
 refine ⟨⟨by omega, by omega⟩, f.1, ⟨by have := o.w0; omega, by have := o.w1; omega⟩, fun c hcm => ⟨hc c hcm, f.2 c hcm⟩, ?_⟩
 by_cases h7 : x.kind = 7
 ·have := o.c7 h7
  unfold casesP at this
  split at this
  ·omega
  ·omega
 ·rw [o.c h7]; simp
theorem op0_In : op0.In := ⟨⟨by decide, by decide⟩, ⟨by decide, by decide⟩, ⟨by decide, by decide⟩, fun c hc => by simp [op0] at hc, by simp [op0]⟩
theorem parseP_In (s : Wd) : (parseP s).1.In ∧ ((parseP s).2 = 0 → (parseP s).1.fine) := by
 have fin : ∀ (q : OpV × Int), q.1.fine → (finP q).1.In ∧ ((finP q).2 = 0 → (finP q).1.fine) := fun q hf => by
  unfold finP
  split
  ·split
   ·rename_i hc
    exact ⟨(opOk hc).In hf, fun _ => hf⟩
   ·rename_i hc
    exact ⟨op0_In, fun h => absurd h hc⟩
  ·rename_i hc
   exact ⟨op0_In, fun h => absurd h hc⟩
 have err : op0.In ∧ ((2 : Int) = 0 → op0.fine) := ⟨op0_In, fun h => by cases h⟩
 have z : inI 0 := ⟨by decide, by decide⟩
 unfold parseP
 split
 ·exact err
 ·exact err
 ·unfold parseW
  split
  ·exact err
  ·refine fin _ ?_
   unfold readP
   repeat' split
   ·exact ⟨numR_inI _ _, fun c hc => by simp at hc⟩
   ·exact ⟨z, fun c hc => by simp at hc⟩
   ·exact ⟨z, fun c hc => runP_in _ _ _ _ (Nat.le_refl _) (by simp) c hc⟩
   ·exact ⟨z, fun c hc => by simp at hc⟩
   ·exact ⟨z, fun c hc => by simp at hc⟩
theorem okOp.In {x : OpV} (h : okOp x) (hl : x.cases.length ≤ 20) : x.In := ⟨h.2.1, h.2.2.1, h.2.2.2.1, h.2.2.2.2, by omega⟩
theorem okOp.fine {x : OpV} (h : okOp x) : x.fine := ⟨h.2.2.1, fun c hc => (h.2.2.2.2 c hc).2⟩
end Go.Cl
