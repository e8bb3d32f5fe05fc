/-
  Texts laid together: AAoY AAoZ.
-/
import Derived.Test.YtlndogibbgibgaaGreatDoorMZ3
namespace Go.Cl
open Go
set_option linter.unusedSimpArgs false
set_option linter.unusedVariables false
set_option maxHeartbeats 2000000
variable {p p' : PP}
theorem WF_kn6 {f : Nat} (hp : p.pr f = addKnown [f] noPr f) {h : Heap} {K : CV → Heap → Prop} (k : K (.bool true) h) : WF p f [] h K := by
 refine ⟨1, .bool true, h, ?_, k⟩
 show evCall p.Pg p.pr 1 f [] h = _
 have : [f].contains f = true := by simp
 simp only [evCall, hp, addKnown, this]
theorem wu86 {x : Int} (h0 : 0 ≤ x) (h1 : x ≤ 255) : IntKind.u8.wrap x = x := by
 simp only [IntKind.wrap, IntKind.bits, IntKind.signed, Bool.false_and, Bool.false_eq_true, if_false]
 omega
theorem tmod_nat {x m : Int} (hx : 0 ≤ x) (hm : 0 < m) : ∃ k : Nat, (k : Int) < m ∧ x.tmod m = k :=
 ⟨(x.tmod m).toNat, by have := Int.tmod_lt_of_pos x hm; have := Int.tmod_nonneg (a := x) m hx; omega, by have := Int.tmod_nonneg (a := x) m hx; omega⟩
def LogOk (c b q r T : Int) (i : Nat) (x : LogV) : Prop :=
 x.task = 0 ∧ x.begin = i * q ∧ x.blk = 0 ∧ x.ran = min r (T - i * q) ∧ x.ended = decide (r ≤ T - i * q) ∧ (r ≤ T - i * q → x.fin = i * q + r ∧ x.aborted = decide (b < c)) ∧ (¬ r ≤ T - i * q → x.fin = 0 ∧ x.aborted = false)
theorem one_ok {c b q r T d : Int} (N : OneN c b q r) {s : LogS} (L : OneL c b q r T d s) (hd : T = 0 ∨ 1 ≤ d ∧ d ≤ q) (hT : 0 ≤ T ∧ T ≤ 900) :
  (s.2.2.length : Int) = (T + q - 1) / q ∧ s.2.2.length ≤ T ∧ (∀ (i : Nat) x, s.2.2[i]? = some x → LogOk c b q r T i x) ∧ ((∃ x ∈ s.2.2, x.ended = true) ∨ T < r) := by
 obtain ⟨c1, c12, b1, b15, pc, pb, p40, hr⟩ := N
 rcases L with ⟨h0, e1, e2⟩ | ⟨h0, m, m1, m2, m3, m4⟩
 ·rw [e2]
  refine ⟨?_, by simp; omega, by simp, .inr (by omega)⟩
  rw [h0, Int.ediv_eq_zero_of_lt (by omega) (by omega)]
  rfl
 ·have hd : 1 ≤ d ∧ d ≤ q := hd.resolve_left (Int.ne_of_gt h0)
  have hsucc : ((m + 1 : Nat) : Int) * q = m * q + q := by rw [Int.natCast_add, Int.add_mul]; simp
  rw [m3]
  have hlen : (fullsL c b q r m ++ [curL c b q r m d]).length = m + 1 := by simp
  have hle : (m : Int) + 1 ≤ T := by
   have hmp : (m : Int) * 1 ≤ m * q := Int.mul_le_mul_of_nonneg_left (by omega) (by omega)
   rw [Int.mul_one] at hmp
   generalize (m : Int) * q = mp at *
   omega
  refine ⟨?_, by rw [hlen]; omega, ?_, ?_⟩
  ·rw [hlen, show T + q - 1 = (d - 1) + ((m + 1 : Nat) : Int) * q by rw [hsucc, m2]; omega, Int.add_mul_ediv_right _ _ (by omega), Int.ediv_eq_zero_of_lt (by omega) (by omega)]
   omega
  ·intro i x hx
   by_cases him : i < m
   ·rw [List.getElem?_append_left (by simpa using him)] at hx
    simp only [fullsL, List.getElem?_map, List.getElem?_range him, Option.map_some, Option.some.injEq] at hx
    subst hx
    have hge : r ≤ T - i * q := by
     have h2 : ((i + 1 : Nat) : Int) * q ≤ m * q := Int.mul_le_mul_of_nonneg_right (by omega) (by omega)
     have h3 : ((i + 1 : Nat) : Int) * q = i * q + q := by rw [Int.natCast_add, Int.add_mul]; simp
     rw [h3] at h2
     generalize (m : Int) * q = mp at *
     generalize (i : Int) * q = ip at *
     omega
    refine ⟨rfl, rfl, rfl, ?_, ?_, fun _ => ⟨rfl, rfl⟩, fun hn => absurd hge hn⟩
    ·show r = _; omega
    ·show true = _; simp [hge]
   ·have hi : i = m := by
     have := (List.getElem?_eq_some_iff.1 hx).1
     rw [hlen] at this
     omega
    subst hi
    rw [List.getElem?_append_right (by simp)] at hx
    simp at hx
    subst hx
    have hT' : T - i * q = d := by rw [m2]; omega
    refine ⟨rfl, rfl, rfl, by rw [hT']; rfl, by rw [hT']; rfl, fun h => ?_, fun h => ?_⟩
    ·rw [hT'] at h; simp [curL, h]
    ·rw [hT'] at h; simp [curL, h]
  ·by_cases hrd : r ≤ d
   ·exact .inl ⟨curL c b q r m d, by simp, by simp [curL, hrd]⟩
   ·by_cases hm0 : m = 0
    ·right
     rw [m2, hm0]
     simp
     omega
    ·exact .inl ⟨fullL c b q r 0, by simp [fullsL]; exact .inl ⟨0, by omega, rfl⟩, rfl⟩
theorem worst_one {r : Int} (hr : 1 ≤ r ∧ r ≤ 100) : ∀ {l : List LogV} {w : Int}, (w = 0 ∨ w = r) → (∀ x ∈ l, x.task = 0 ∧ (x.ended = true → x.fin - x.begin = r)) →
  l.foldl worstStep [w] = [if w = r ∨ (∃ x ∈ l, x.ended = true) then r else 0]
 | [], w, hw, _ => by
   rcases hw with rfl | rfl
   ·have : ¬ (0 : Int) = r := by omega
    simp [this]
   ·simp
 | x :: l, w, hw, h => by
   obtain ⟨h1, h2⟩ := h x List.mem_cons_self
   have ih := fun w hw => worst_one hr (l := l) (w := w) hw fun y hy => h y (List.mem_cons_of_mem _ hy)
   rw [List.foldl_cons]
   by_cases he : x.ended = true
   ·have hwr : IntKind.i64.wrap (x.fin - x.begin) = r := by rw [h2 he]; exact w64 (by omega) (by omega)
    have : worstStep [w] x = [r] := by
     simp [worstStep, he, h1, hwr]
     omega
    rw [this, ih r (.inr rfl)]
    simp [he]
   ·have he' : x.ended = false := by simpa using he
    have : worstStep [w] x = [w] := by simp [worstStep, he']
    rw [this, ih w hw]
    simp [he']
def opO (c : Int) : List CV := [.int .i64 1, .int .i64 c, .int .i64 0, .int .i64 0, .nils]
def tkO (b q : Int) (v : CV) : List CV := [.str [97], .int .i64 q, .int .i64 q, .int .i64 b, v]
theorem slAt6 {α : Type} {e : Cod α} {h : Heap} {P : Nat → Prop} {b n : Nat} {cells : List CV} {l : List α} (g : h[b]? = some (.arr cells .tight)) (r : Rows e h P cells l) (hn : l.length = n) (hb : P b) : Sl e h P (.sl b 0 n n) l := by
 subst hn
 have m : Mine h e.n (.sl b 0 l.length l.length) cells := .inr ⟨b, l.length, .tight, rfl, r.1, .inl rfl, g⟩
 exact ⟨_, m.read, ⟨m.ok, fun y hy => by simp [CV.blk] at hy; rw [← hy]; exact hb⟩, r⟩
theorem one_tasks {H : Heap} {P : Nat → Prop} {b0 b1 : Nat} {c b q : Int} (g0 : H[b0]? = some (.arr (opO c) .tight)) (g1 : H[b1]? = some (.arr (tkO b q (.sl b0 0 1 1)) .tight)) (p0 : P b0) (p1 : P b1) : Sl taskC H P (.sl b1 0 1 1) (oneSet c b q).tasks :=
 slAt6 g1 (Rows.one (e := taskC) ⟨_, rfl, slAt6 g0 (Rows.one (e := opC) ⟨.nils, rfl, Sl.nil⟩) rfl p0⟩) rfl p1
def oneR (T i : Nat) : List (List Int) := List.replicate i [0] ++ List.replicate (T - i) []
@[simp] theorem oneR_length {T i : Nat} (h : i ≤ T) : (oneR T i).length = T := by simp [oneR]; omega
theorem oneR_step {T i : Nat} (h : i < T) : (oneR T i).set i [0] = oneR T (i + 1) := by
 apply List.ext_getElem? fun j => ?_
 by_cases hj : j = i
 ·subst hj
  rw [List.getElem?_set_self (by rw [oneR_length (by omega)]; exact h)]
  simp [oneR, List.getElem?_append, List.getElem?_replicate]
 ·rw [List.getElem?_set_ne (Ne.symm hj)]
  simp only [oneR, List.getElem?_append, List.length_replicate, List.getElem?_replicate]
  by_cases h1 : j < i
  ·simp [h1, show j < i + 1 by omega]
  ·have h2 : ¬ j < i + 1 := by omega
   simp only [h1, h2, if_false]
   by_cases h3 : j < T
   ·rw [if_pos (by omega), if_pos (by omega)]
   ·rw [if_neg (by omega), if_neg (by omega)]
def AoI (sb B T : Nat) (c b q t : Int) (H : Heap) (m : Nat) (e : Env) (h' : Heap) : Prop :=
 ∃ (i : Nat) (cells : List CV), i ≤ T ∧ m = T - i ∧ e = [(3, .int .u8 t), (9, .int .i64 c), (10, .int .i64 b), (11, .int .i64 q), (12, .ptr sb 0), (13, .sl B 0 T T), (14, .int .i64 i)] ∧ Keep (fun b => b = B) H h' ∧ h'[B]? = some (.arr cells .tight) ∧ Rows (.sl (.int .i64)) h' (fun b => B < b) cells (oneR T i)
def AoC (sb : Nat) (lv : CV) (c b q r t : Int) (n : Nat) (H : Heap) (m : Nat) (e : Env) (h' : Heap) : Prop :=
 ∃ i : Nat, i ≤ n ∧ m = n - i ∧ e = [(3, .int .u8 t), (9, .int .i64 c), (10, .int .i64 b), (11, .int .i64 q), (12, .ptr sb 0), (17, lv), (18, .int .i64 r), (19, .int .i64 i)] ∧ Keep NoneOf H h'
set_option maxHeartbeats 4000000
theorem mnL_two {a b : Int} : mnL [.int .i64 a, .int .i64 b] = some (.int .i64 (min a b)) := by
 simp only [mnL, mnR]
 by_cases h : b < a
 ·simp [h]; omega
 ·simp [h]; omega
theorem one_prog {c : Int} (h1 : 1 ≤ c) (h2 : c ≤ 20) : (progP [⟨1, c, 0, 0, []⟩]).2 = 0 ∧ costP [⟨1, c, 0, 0, []⟩] ≠ 0 := by
 obtain ⟨q, rfl⟩ : ∃ q : Fin 21, c = (q.val : Int) := ⟨⟨c.toNat, by omega⟩, by simp; omega⟩
 have : ∀ q : Fin 21, 1 ≤ (q.val : Int) → (progP [⟨1, (q.val : Int), 0, 0, []⟩]).2 = 0 ∧ costP [⟨1, (q.val : Int), 0, 0, []⟩] ≠ 0 := by decide
 exact this q h1
theorem oneSet_ok {c b q r : Int} (N : OneN c b q r) : (setP (oneSet c b q)).2 = 0 := by
 obtain ⟨c1, c12, b1, b15, pc, pb, p40, hr⟩ := N
 obtain ⟨p1, p2⟩ := one_prog (c := c) (by omega) (by omega)
 have a1 : ¬ nameP (oneT c b q).name = false := by
  have : nameP [97] = true := by decide
  simp [oneT, this]
 have a2 : ¬ ((oneSet c b q).tasks.take 0).any (fun u => decide (u.name = (oneT c b q).name)) = true := by simp
 have a3 : ¬ timesBad (oneT c b q) = true := by
  simp only [timesBad, oneT, Bool.or_eq_true]
  rintro (h | h | h | h | h | h) <;> (have := of_decide_eq_true h; omega)
 have a4 : ¬ (progP (oneT c b q).prog).2 ≠ 0 := by simp [oneT, oneP, p1]
 have a5 : ¬ costP (oneT c b q).prog = 0 := by simpa [oneT, oneP] using p2
 have a6 : (oneT c b q).prog.all (knownP (oneSet c b q)) = true := by simp [oneT, oneP, knownP]
 have ht : taskP (oneSet c b q) 0 (oneT c b q) = 0 := by
  unfold taskP
  rw [if_neg a1, if_neg a2, if_neg a3, if_neg a4, if_neg a5, if_pos a6]
 unfold setP
 rw [if_neg (by simp [oneSet]), if_neg (by simp [oneSet]), if_neg (by simp [oneSet])]
 show (tasksGo (oneSet c b q) 0 [oneT c b q]).2 = 0
 rw [tasksGo, if_pos ht]
 rfl
theorem one_check {i : Nat} (hi : i ≤ 300) : checkS (List.replicate i [0]) = (0, 0) := by
 have h : ∀ (n j : Nat), checkL j (List.replicate n [0]) = (0, 0) := by
  intro n
  induction n with
  | zero => intro j; rfl
  | succ n ih =>
    intro j
    rw [List.replicate_succ, checkL, if_neg (by simp), if_neg (by simp [badN]), ih]
 unfold checkS
 rw [if_neg (by simp; omega), h]
set_option maxRecDepth 20000 in
theorem auditOne_law (la : LA p p') (hk6 : p.pr 476 = addKnown [476] noPr 476) (hp2 : p.pr 482 = some ranP) {h : Heap} {x0 x1 x2 x3 : Int} (h0 : 0 ≤ x0 ∧ x0 ≤ 255) (h1 : 0 ≤ x1 ∧ x1 ≤ 255) (h2 : 0 ≤ x2 ∧ x2 ≤ 255) (h3 : 0 ≤ x3 ∧ x3 ≤ 255) :
  WF p 475 [.int .u8 x0, .int .u8 x1, .int .u8 x2, .int .u8 x3] h fun r h' => r = .bool true := by
 have lp := la.lp
 refine WF_of (by rw [lp.pg]; exact S.pg475) (lp.no ⟨rfl, rfl⟩) ?_
 show W p S.b475 _ _ (retQ [.t 8] _)
 unfold S.b475
 simp
 refine WF_kn6 hk6 ?_
 obtain ⟨C, hC, hxC⟩ := tmod_nat (x := x0) (m := 12) h0.1 (by omega)
 obtain ⟨B, hB, hxB⟩ := tmod_nat (x := x1) (m := 15) h1.1 (by omega)
 obtain ⟨M, hM, hxM⟩ := tmod_nat (x := x2) (m := 9) h2.1 (by omega)
 obtain ⟨T, hT⟩ : ∃ T : Nat, x3 = T := ⟨x3.toNat, by omega⟩
 subst hT
 have u1 : IntKind.u8.wrap (C : Int) = C := wu86 (by omega) (by omega)
 have u2 : IntKind.u8.wrap (B : Int) = B := wu86 (by omega) (by omega)
 have u3 : IntKind.u8.wrap (M : Int) = M := wu86 (by omega) (by omega)
 have v1 : IntKind.i64.wrap (C : Int) = C := w64 (by omega) (by omega)
 have v2 : IntKind.i64.wrap (B : Int) = B := w64 (by omega) (by omega)
 have v3 : IntKind.i64.wrap (M : Int) = M := w64 (by omega) (by omega)
 have v4 : IntKind.i64.wrap (T : Int) = T := w64 (by omega) (by omega)
 obtain ⟨c, hc⟩ : ∃ c : Int, c = 1 + C := ⟨_, rfl⟩
 obtain ⟨b, hb⟩ : ∃ b : Int, b = 1 + B := ⟨_, rfl⟩
 obtain ⟨q, hq⟩ : ∃ q : Int, q = max c b + M := ⟨_, rfl⟩
 have w1 : IntKind.i64.wrap (1 + (C : Int)) = c := by rw [w64 (by omega) (by omega)]; omega
 have w2 : IntKind.i64.wrap (1 + (B : Int)) = b := by rw [w64 (by omega) (by omega)]; omega
 have w3 : IntKind.i64.wrap (max c b + M) = q := by rw [w64 (by omega) (by omega)]; omega
 have mx := mxL_two (a := c) (b := b)
 obtain ⟨r, hr⟩ : ∃ r, r = min c b := ⟨_, rfl⟩
 have ON : OneN c b q r := ⟨by omega, by omega, by omega, by omega, by omega, by omega, by omega, hr⟩
 have f1 : fillC [.int .i64 0, .int .i64 0, .int .i64 0, .int .i64 0, .nils] [(0, 1, .int .i64 1), (1, 1, .int .i64 c)] = some (opO c) := rfl
 have f2 : fillC [.int .i64 0, .int .i64 0, .int .i64 0, .int .i64 0, .nils] [(0, 5, .agg (opO c))] = some (opO c) := rfl
 have f3 : ∀ k : Nat, fillC [.str [], .int .i64 0, .int .i64 0, .int .i64 0, .nils] [(0, 1, .str [97]), (1, 1, .int .i64 q), (2, 1, .int .i64 q), (3, 1, .int .i64 b), (4, 1, .sl k 0 1 1)] = some (tkO b q (.sl k 0 1 1)) := fun _ => rfl
 have f4 : ∀ k : Nat, fillC [.str [], .int .i64 0, .int .i64 0, .int .i64 0, .nils] [(0, 5, .agg (tkO b q (.sl k 0 1 1)))] = some (tkO b q (.sl k 0 1 1)) := fun _ => rfl
 have f5 : ∀ k : Nat, fillC [.int .i64 0, .nils, .nils] [(2, 1, .sl k 0 1 1)] = some [.int .i64 0, .nils, .sl k 0 1 1] := fun _ => rfl
 have hca : ∀ l, (CV.agg l).cells = l := fun _ => rfl
 have s3 := store_new (h := h ++ [.arr (opO c) .tight, .arr (tkO b q (.sl h.length 0 1 1)) .tight]) (row := [.int .i64 0, .nils, .sl (h.length + 1) 0 1 1]) (z := [.int .i64 0, .nils, .nils]) rfl rfl
 simp at s3
 have hbig : T ≤ big := by simp [big]; omega
 simp [hxC, hxB, hxM, u1, u2, u3, v1, v2, v3, v4, w1, w2, mx, w3, f1, f2, f3, f4, f5, hca, s3, hbig]
 have kA := Keep.app NoneOf h [.arr (opO c) .tight, .arr (tkO b q (.sl h.length 0 1 1)) .tight, .arr [.int .i64 0, .nils, .sl (h.length + 1) 0 1 1] .tight, .arr (List.replicate T .nils) .tight]
 have g0 : (h ++ [Obj.arr (opO c) .tight, .arr (tkO b q (.sl h.length 0 1 1)) .tight, .arr [.int .i64 0, .nils, .sl (h.length + 1) 0 1 1] .tight, .arr (List.replicate T .nils) .tight])[h.length]? = some (.arr (opO c) .tight) := by simp
 have g1 : (h ++ [Obj.arr (opO c) .tight, .arr (tkO b q (.sl h.length 0 1 1)) .tight, .arr [.int .i64 0, .nils, .sl (h.length + 1) 0 1 1] .tight, .arr (List.replicate T .nils) .tight])[h.length + 1]? = some (.arr (tkO b q (.sl h.length 0 1 1)) .tight) := by simp
 have g2 : (h ++ [Obj.arr (opO c) .tight, .arr (tkO b q (.sl h.length 0 1 1)) .tight, .arr [.int .i64 0, .nils, .sl (h.length + 1) 0 1 1] .tight, .arr (List.replicate T .nils) .tight])[h.length + 2]? = some (.arr [.int .i64 0, .nils, .sl (h.length + 1) 0 1 1] .tight) := by simp
 have g3 : (h ++ [Obj.arr (opO c) .tight, .arr (tkO b q (.sl h.length 0 1 1)) .tight, .arr [.int .i64 0, .nils, .sl (h.length + 1) 0 1 1] .tight, .arr (List.replicate T .nils) .tight])[h.length + 3]? = some (.arr (List.replicate T .nils) .tight) := by simp
 generalize h ++ [Obj.arr (opO c) .tight, .arr (tkO b q (.sl h.length 0 1 1)) .tight, .arr [.int .i64 0, .nils, .sl (h.length + 1) 0 1 1] .tight, .arr (List.replicate T .nils) .tight] = H4 at *
 refine W_loop (AoI (h.length + 2) (h.length + 3) T c b q T H4) ?_ T ⟨0, List.replicate T .nils, by omega, by omega, rfl, Keep.refl _ _, g3, ?_⟩
 case refine_2 =>
  refine ⟨by simp [Cod.sl, oneR], fun i x hx => ?_⟩
  have hi : i < T := by
   have := (List.getElem?_eq_some_iff.1 hx).1
   simpa [oneR] using this
  simp [oneR, hi] at hx
  subst hx
  refine ⟨.nils, ?_, Sl.nil⟩
  show ((List.replicate T CV.nils).drop (i * 1)).take 1 = _
  rw [Nat.mul_one, List.drop_eq_getElem_cons (by simpa using hi)]
  simp
 rintro m e h5 ⟨i, cells, hi, rfl, rfl, k5, gB, rw5⟩
 have hcl : cells.length = T := by have := rw5.1; rw [oneR_length hi] at this; simpa [Cod.sl] using this
 by_cases hin : i = T
 case neg =>
  have hlt : i < T := by omega
  have hlt' : (i : Int) < T := by omega
  have hw1 : IntKind.i64.wrap ((i : Int) + 1) = ((i + 1 : Nat) : Int) := by rw [w64 (by omega) (by omega)]; omega
  have f6 : fillC [.int .i64 0] [(0, 1, .int .i64 0)] = some [.int .i64 0] := rfl
  have kA' := Keep.app NoneOf h5 [.arr [.int .i64 0] .tight]
  have gA := kA'.at gB id
  have hB' := lt_of_get gB
  have s1 := sto1 gA (o := i) (v := .sl h5.length 0 1 1) (by omega) rfl
  have kS : Keep (fun b => b = h.length + 3) (h5 ++ [Obj.arr [.int .i64 0] .tight]) ((h5 ++ [Obj.arr [.int .i64 0] .tight]).set (h.length + 3) (.arr (cells.set i (.sl h5.length 0 1 1)) .tight)) := Keep.set _ _ rfl
  have sN : Sl (.int .i64) ((h5 ++ [Obj.arr [.int .i64 0] .tight]).set (h.length + 3) (.arr (cells.set i (.sl h5.length 0 1 1)) .tight)) (fun b => h.length + 3 < b) (.sl h5.length 0 1 1) [0] := by
   have : Sl (.int .i64) (h5 ++ [Obj.arr [.int .i64 0] .tight]) (fun b => h.length + 3 < b) (.sl h5.length 0 1 1) [0] := slAt6 get_new (rows_ints.2 rfl) rfl hB'
   exact this.keep kS fun b hb => by omega
  have rN := rows_set (((rw5.keep kA' fun _ _ => id).keep kS fun b hb => by omega)) (i := i) (x := [0]) (by rw [oneR_length hi]; exact hlt) (row := [.sl h5.length 0 1 1]) ⟨_, rfl, sN⟩
  rw [oneR_step hlt, show i * (Cod.sl (Cod.int .i64)).n = i from Nat.mul_one i, splice_set (by omega)] at rN
  simp [hlt, hlt', f6, hw1, s1]
  exact ⟨T - (i + 1), by omega, i + 1, cells.set i (.sl h5.length 0 1 1), by omega, rfl, rfl, (k5.then kA' fun _ _ => False.elim).trans kS, get_set_self (lt_of_get gA), rN⟩
 subst hin
 have hrr : oneR i i = List.replicate i [0] := by simp [oneR]
 rw [hrr] at rw5
 have ls : Sl (.sl (.int .i64)) h5 (fun b => b < h5.length) (.sl (h.length + 3) 0 i i) (List.replicate i [0]) := slAt6 gB (rw5.lt.mono fun b hb => hb.2) (by simp) (lt_of_get gB)
 have st5 : Sl taskC h5 (fun b => b < h5.length) (.sl (h.length + 1) 0 1 1) (oneSet c b q).tasks := one_tasks (k5.at g0 (by omega)) (k5.at g1 (by omega)) (lt_of_get (k5.at g0 (by omega))) (lt_of_get (k5.at g1 (by omega)))
 have g25 := k5.at g2 (by omega)
 have l2 := ldw g25 (n := 3) rfl
 obtain ⟨s', hday⟩ := one_day ON (n := i) (one_start ON) (by omega) (by omega)
 have hElen := oneDay_len (c := c) (b := b) (p := q) (r := r) (n := i) (t := 0) (d := 0)
 obtain ⟨sl, d', hlog, hL, hd'⟩ := one_logsDay ON (n := i) (t := 0) (d := 0) (s := ([], 0, [])) (.inl ⟨rfl, rfl, rfl⟩) (.inl rfl) (by omega) (by omega)
 rw [Int.zero_add] at hL hd'
 obtain ⟨o1, o2, o3, o4⟩ := one_ok ON hL hd' (by omega)
 simp [l2]
 refine (runX la (x := oneSet c b q) (k := 0) (n := 8) st5 rfl (by omega) rfl (fun y hy => hy) ?_ ?_ ?_ ?_ (by simp [oneSet]) ls (by simp; omega) ?_ ?_ hday (by omega)).mono ?_
 ·refine ⟨fun t ht => ?_, by simp [oneSet], by simp [oneSet, big]⟩
  simp only [oneSet, List.mem_cons, List.not_mem_nil, or_false] at ht
  subst ht
  exact ⟨by simp [oneT, oneP, big], by simp [oneT, oneP], by simp [oneT]⟩
 ·exact oneSet_ok ON
 ·intro t ht
  simp only [oneSet, List.mem_cons, List.not_mem_nil, or_false] at ht
  subst ht
  simp [oneT, oneP, locksL]
 ·intro t ht
  simp only [oneSet, List.mem_cons, List.not_mem_nil, or_false] at ht
  subst ht
  exact ⟨by simp [oneT, oneP], by simp [oneT, oneP]⟩
 ·exact one_check (by omega)
 ·intro y hy
  rw [List.eq_of_mem_replicate hy]
  simp
 rintro y h6 ⟨v, rfl, k6, ev⟩
 have w6 := ldw (k6.at g25 id) (n := 3) rfl
 simp [w6]
 have st6 := st5.on k6
 refine (logs477 lp hp2 (x := oneSet c b q) (P := fun y => y < h6.length) (c := [.int .i64 0, .nils, .sl (h.length + 1) 0 1 1]) ⟨.nils, _, rfl, Sl.nil, st6.lt.mono fun y hy => hy.2⟩ (fun y hy => hy) (by simp [oneSet]) (by simp [oneSet]) ev (by omega) (by rw [show priosP (oneSet c b q).tasks = [1] from rfl]; exact hlog)).mono ?_
 rintro lv h7 ⟨k7, lg⟩
 have nl := lg.len (by decide)
 have hq0 : ¬ q = 0 := by omega
 have hq1 : 0 ≤ (i : Int) + q - 1 := by omega
 have e1 : IntKind.i64.wrap ((i : Int) + q) = i + q := w64 (by omega) (by omega)
 have e2 : IntKind.i64.wrap ((i : Int) + q - 1) = i + q - 1 := w64 (by omega) (by omega)
 have e3 : ((i : Int) + q - 1).tdiv q = (sl.2.2.length : Int) := by rw [Int.tdiv_eq_ediv_of_nonneg hq1, o1]
 have e4 : IntKind.i64.wrap (sl.2.2.length : Int) = sl.2.2.length := w64 (by omega) (by omega)
 have mn : mnL [.int .i64 c, .int .i64 b] = some (.int .i64 r) := by rw [hr]; exact mnL_two
 simp [nl, hq0, v4, e1, e2, e3, e4, mn]
 have hL100 : sl.2.2.length ≤ 100000 := by omega
 have hmulN : (sl.2.2.length : Int) * q ≤ i + q - 1 := by rw [o1]; exact Int.ediv_mul_le _ (by omega)
 generalize hLL : sl.2.2 = L at *
 generalize hSB : h.length + 2 = sb at *
 refine W_loop (AoC sb lv c b q r i L.length h7) ?_ L.length ⟨0, by omega, by omega, rfl, Keep.refl _ _⟩
 rintro m e h8 ⟨j, hj, rfl, rfl, k8⟩
 have g27 := (k6.then k7 fun _ _ => False.elim).at g25 id
 have g28 := k8.at g27 id
 have w8 := ldw g28 (n := 3) rfl
 have st8 := (st6.on k7).on k8
 have lg8 := lg.on k8
 have nl8 := lg8.len (by decide)
 by_cases hje : j = L.length
 ·subst hje
  simp [nl8, w8]
  refine (worst478 lp (x := oneSet c b q) (c := [.int .i64 0, .nils, .sl (h.length + 1) 0 1 1]) ⟨.nils, _, rfl, Sl.nil, st8⟩ (by simp [oneSet]) lg8 hL100).mono ?_
  rintro y h9 ⟨B, rfl, k9, gW⟩
  have hwv : worstF (oneSet c b q).tasks.length L = [if (0 : Int) = r ∨ (∃ x ∈ L, x.ended = true) then r else 0] := by
   refine worst_one (by omega) (.inl rfl) fun x hx => ?_
   obtain ⟨j, hj⟩ := List.mem_iff_getElem?.1 hx
   obtain ⟨q1, q2, q3, q4, q5, q6, q7⟩ := o3 j x hj
   refine ⟨q1, fun he => ?_⟩
   rw [q5] at he
   have := (q6 (of_decide_eq_true he)).1
   omega
  rw [hwv] at gW
  have lW := ld gW
  have hlen1 : (oneSet c b q).tasks.length = 1 := rfl
  rw [hlen1]
  have hr0 : ¬ (0 : Int) = r := by omega
  have hr0' : ¬ r = 0 := by omega
  by_cases hex : ∃ x ∈ L, x.ended = true
  ·rw [if_pos (.inr hex)] at lW
   have l0 : loadAt h9 B 0 none = some (.int .i64 r) := by rw [lW]; rfl
   simp [l0]
  ·rw [if_neg (by rintro (q | q); exact hr0 q; exact hex q)] at lW
   have l0 : loadAt h9 B 0 none = some (.int .i64 0) := by rw [lW]; rfl
   have hTr : (i : Int) < r := o4.resolve_left hex
   simp [l0, hr0, v4, hTr]
 have hlt : j < L.length := by omega
 have hlt' : (j : Int) < L.length := by omega
 have hw1 : IntKind.i64.wrap ((j : Int) + 1) = ((j + 1 : Nat) : Int) := by rw [w64 (by omega) (by omega)]; omega
 have hjq : (j : Int) * q ≤ 300 := by
  have h2 : ((j + 1 : Nat) : Int) * q ≤ (L.length : Int) * q := Int.mul_le_mul_of_nonneg_right (by omega) (by omega)
  have h3 : ((j + 1 : Nat) : Int) * q = j * q + q := by rw [Int.natCast_add, Int.add_mul]; simp
  rw [h3] at h2
  generalize (j : Int) * q = jq at *
  generalize (L.length : Int) * q = nq at *
  omega
 have hjq0 : 0 ≤ (j : Int) * q := Int.mul_nonneg (by omega) (by omega)
 obtain ⟨b0, o0, row, x1, x2, x3, x4⟩ := lg8.row (k := .i64) (by decide) hlt
 have x1 : idxAddrV 7 lv (.int .i64 (j : Int)) = some (.ptr b0 o0) := x1
 have x2 : loadAt h8 b0 o0 (some 7) = some (.agg row) := x2
 have x4 : row = logL L[j] := x4
 subst x4
 obtain ⟨q1, q2, q3, q4, q5, q6, q7⟩ := o3 j L[j] (List.getElem?_eq_getElem hlt)
 obtain ⟨bg, hbg⟩ : ∃ bg, (j : Int) * q = bg := ⟨_, rfl⟩
 rw [hbg] at q2 q4 q5 q6 q7 hjq hjq0
 have wj : IntKind.i64.wrap ((j : Int) * q) = bg := by rw [hbg]; exact w64 (by omega) (by omega)
 have wl : IntKind.i64.wrap ((i : Int) - bg) = i - bg := w64 (by omega) (by omega)
 have wr : IntKind.i64.wrap (bg + r) = bg + r := w64 (by omega) (by omega)
 have f7 : fillC [.int .i64 0, .int .i64 0, .int .i64 0, .bool false, .bool false, .int .i64 0, .int .i64 0] [] = some [.int .i64 0, .int .i64 0, .int .i64 0, .bool false, .bool false, .int .i64 0, .int .i64 0] := rfl
 have s5 := store_new (h := h8) (row := logL L[j]) (z := [.int .i64 0, .int .i64 0, .int .i64 0, .bool false, .bool false, .int .i64 0, .int .i64 0]) rfl rfl
 have ll : (logL L[j]).length = 7 := rfl
 have k9 := Keep.app NoneOf h8 [.arr (logL L[j]) .tight]
 have g9 := get_new (h := h8) (o := .arr (logL L[j]) .tight)
 have l9 := ld g9
 simp [hlt, hlt', nl8, x1, x2, hca, s5, ll, wj, wl, v4]
 generalize h8 ++ [Obj.arr (logL L[j]) .tight] = H9 at *
 generalize L[j] = y at *
 have y0 : loadAt H9 h8.length 0 none = some (.int .i64 0) := by rw [l9, ← q1]; rfl
 have y1 : loadAt H9 h8.length 1 none = some (.int .i64 bg) := by rw [l9, ← q2]; rfl
 have y6 : loadAt H9 h8.length 6 none = some (.int .i64 0) := by rw [l9, ← q3]; rfl
 have fin : ∃ m', m' < L.length - j ∧ AoC sb lv c b q r i L.length h7 m' [(3, .int .u8 i), (9, .int .i64 c), (10, .int .i64 b), (11, .int .i64 q), (12, .ptr sb 0), (17, lv), (18, .int .i64 r), (19, .int .i64 ((j + 1 : Nat) : Int))] H9 :=
  ⟨L.length - (j + 1), by omega, j + 1, by omega, rfl, rfl, k8.trans k9⟩
 by_cases hrl : r ≤ i - bg
 ·obtain ⟨z1, z2⟩ := q6 hrl
  have hm : min r (i - bg) = r := by omega
  rw [hm] at q4
  have mn2 : mnL [.int .i64 r, .int .i64 (i - bg)] = some (.int .i64 r) := by rw [mnL_two, hm]
  have y2 : loadAt H9 h8.length 2 none = some (.int .i64 (bg + r)) := by rw [l9, ← z1]; rfl
  have y3 : loadAt H9 h8.length 3 none = some (.bool true) := by rw [l9]; show some (CV.bool y.ended) = _; rw [q5]; simp [hrl]
  have y4 : loadAt H9 h8.length 4 none = some (.bool (decide (b < c))) := by rw [l9, ← z2]; rfl
  have y5 : loadAt H9 h8.length 5 none = some (.int .i64 r) := by rw [l9, ← q4]; rfl
  by_cases hbc : b < c
  ·simp only [hbc, decide_true] at y4
   simp [y0, y1, y2, y3, y4, y5, y6, mn2, hrl, hbc, wr, hw1]
   exact fin
  ·simp only [hbc, decide_false] at y4
   simp [y0, y1, y2, y3, y4, y5, y6, mn2, hrl, hbc, wr, hw1]
   exact fin
 ·obtain ⟨z1, z2⟩ := q7 hrl
  have hm : min r (i - bg) = i - bg := by omega
  rw [hm] at q4
  have mn2 : mnL [.int .i64 r, .int .i64 (i - bg)] = some (.int .i64 (i - bg)) := by rw [mnL_two, hm]
  have y2 : loadAt H9 h8.length 2 none = some (.int .i64 0) := by rw [l9, ← z1]; rfl
  have y3 : loadAt H9 h8.length 3 none = some (.bool false) := by rw [l9]; show some (CV.bool y.ended) = _; rw [q5]; simp [hrl]
  have y4 : loadAt H9 h8.length 4 none = some (.bool false) := by rw [l9, ← z2]; rfl
  have y5 : loadAt H9 h8.length 5 none = some (.int .i64 (i - bg)) := by rw [l9, ← q4]; rfl
  simp [y0, y1, y2, y3, y4, y5, y6, mn2, hrl, wr, hw1]
  exact fin
end Go.Cl
