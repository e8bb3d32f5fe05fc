/-
  Texts laid together: AOpW AOpZ AOpZM AOpA.
-/
import Derived.Test.YtdbakplieenefaaGreatDoorM8
import Derived.Test.YtdbakplieenefaaGreatDoorM9
import Derived.Test.YtdbakplieenefaaGreatDoorM5
namespace Go.Cl
open Go
set_option linter.unusedSimpArgs false
set_option linter.unusedVariables false
set_option maxHeartbeats 1000000
variable {p : PP}
theorem Sl.word {h : Heap} {P : Nat → Prop} {v : CV} {l : List Wd} (s : Sl .str h P v l) {i : Nat} (hi : i < l.length) : ∃ b o, idxAddrV 1 v (.int .i64 i) = some (.ptr b o) ∧ loadAt h b o none = some (.str (at_ l i)) := by
 obtain ⟨b1, o1, row, x1, x2, x3, x4⟩ := s.row (k := .i64) (by decide) hi
 have x4 : row = [.str l[i]] := x4
 have x1 : idxAddrV 1 v (.int .i64 i) = some (.ptr b1 o1) := x1
 have x5 := x3 0 (by decide)
 have hat : at_ l i = l[i] := by simp [at_, List.getElem?_eq_getElem hi]
 rw [x4, ← hat] at x5
 exact ⟨b1, o1, x1, x5⟩
def RkwI (h : Heap) (v : CV) (w : Wd) (m : Nat) (e : Env) (h' : Heap) : Prop :=
 ∃ i : Nat, 1 ≤ i ∧ i ≤ 10 ∧ m = 10 - i ∧ e = [(0, .str w), (3, v), (4, .int .i64 i)] ∧ Keep NoneOf h h' ∧ Sl .str h' Any v wordsK ∧ ∀ j : Nat, 1 ≤ j → j < i → wordOf j ≠ w
theorem refKind_spec (lp : LP p) {h : Heap} {w : Wd} : WF p 262 [.str w] h fun r h' => r = .int .i64 (kindOf w) ∧ Keep NoneOf h h' := by
 refine WF_of (by rw [lp.pg]; exact S.pg262) (lp.no ⟨rfl, rfl⟩) ?_
 show W p S.b262 _ _ (retQ [.t 2] _)
 unfold S.b262
 simp
 refine (refWords_spec lp).mono ?_
 rintro r h1 ⟨v, rfl, s1, k1⟩
 refine W_loop (RkwI h r w) ?_ 9 ⟨1, by omega, by omega, by omega, rfl, k1, s1.mono fun _ _ => trivial, fun j h1 h2 => by omega⟩
 rintro m e H ⟨i, h1, h10, rfl, rfl, k, s, hno⟩
 have n0 := s.len (by decide)
 have n0 : lenV H .sl r = some (.int .i64 10) := n0
 by_cases hie : i = 10
 ·subst hie
  have hz : kindOf w = 0 := by
   have hb := kind_le w
   by_cases hk : 1 ≤ kindOf w
   ·exfalso
    obtain ⟨j, hj⟩ := Int.eq_ofNat_of_zero_le hb.1
    refine hno j (by omega) (by omega) ?_
    rw [← hj]
    exact word_kind hk
   ·omega
  rw [hz]
  simp [n0]
  exact k
 ·have hlt : i < wordsK.length := by show i < 10; omega
  have hlt' : (i : Int) < 10 := by omega
  have hlt2 : i < 10 := by omega
  obtain ⟨b0, o0, x1, x2⟩ := wordK_row (k := i) s (by omega) (by omega)
  have hw : IntKind.i64.wrap ((i : Int) + 1) = ((i + 1 : Nat) : Int) := by rw [w64 (by omega) (by omega)]; omega
  by_cases he : wordOf i = w
  ·have := kind_word (k := i) (by omega) (by omega)
   rw [he] at this
   simp [n0, hlt', hlt2, x1, x2, he, this]
   exact k
  ·simp [n0, hlt', hlt2, x1, x2, he, hw]
   refine ⟨_, by omega, i + 1, by omega, by omega, rfl, rfl, k, s, fun j hj hji => ?_⟩
   by_cases hjj : j = i
   ·subst hjj; exact he
   ·exact hno j hj (by omega)
def refW (w : Wd) : Int × Int := if w = [45] then (-1, 0) else if (numP w).2 ≠ 0 then (0, (numP w).2) else if (numP w).1 < 0 then (0, 2) else numP w
theorem refW_eq (w : Wd) : (refW w).2 = (waitR 0 w).2 ∧ ((refW w).2 = 0 → (refW w).1 = (waitR 0 w).1) := by
 unfold refW waitR
 rw [if_pos rfl]
 by_cases h1 : w = [45]
 ·rw [if_pos h1, if_pos h1]; exact ⟨rfl, fun _ => rfl⟩
 rw [if_neg h1, if_neg h1]
 by_cases h2 : (numP w).2 = 0
 ·rw [if_neg (by simpa using h2)]
  by_cases h3 : (numP w).1 < 0
  ·rw [if_pos h3, if_pos ⟨h2, h3⟩]; exact ⟨rfl, fun h => by cases h⟩
  ·rw [if_neg h3, if_neg fun hq => h3 hq.2]; exact ⟨rfl, fun _ => rfl⟩
 ·rw [if_pos h2, if_neg fun hq => h2 hq.1]; exact ⟨rfl, fun h => absurd h h2⟩
theorem refParseWait_spec (lp : LP p) {h : Heap} {w : Wd} (hw : w.length < 4294967281) : WF p 264 [.str w] h fun r h' => r = .tup [.int .i64 (refW w).1, .int .i64 (refW w).2] ∧ Keep NoneOf h h' := by
 refine WF_of (by rw [lp.pg]; exact S.pg264) (lp.no ⟨rfl, rfl⟩) ?_
 show W p S.b264 _ _ (retQ [.t 2, .t 3] _)
 unfold S.b264 refW
 by_cases h1 : w = [45]
 ·simp [h1]
  exact Keep.refl _ _
 ·simp [h1]
  refine (refNumber_spec lp hw).mono ?_
  rintro r h2 ⟨rfl, k⟩
  by_cases h2 : (numP w).2 = 0
  ·by_cases h3 : (numP w).1 < 0
   ·simp [h2, h3]
    exact k
   ·simp [h2, h3]
    exact k
  ·simp [h2]
   exact k
def SlI (v : CV) (l : List Wd) (h : Heap) (m : Nat) (e : Env) (h' : Heap) : Prop :=
 ∃ i : Nat, 2 ≤ i ∧ i ≤ l.length + 3 ∧ m = l.length + 3 - i ∧ e = [(1, v), (5, .int .i64 i)] ∧ h' = h ∧ shapedP (l.drop 2) = (if i ≤ l.length then shapedP (l.drop i) else false)
theorem refLaid_spec (lp : LP p) {h : Heap} {k : Int} {v : CV} {l : List Wd} {P : Nat → Prop} (s : Sl .str h P v l) (hl : l.length ≤ big) (hne : l ≠ []) :
  WF p 263 [.int .i64 k, v] h fun r h' => r = .bool (countP k l.tail) ∧ Keep NoneOf h h' := by
 refine WF_of (by rw [lp.pg]; exact S.pg263) (lp.no ⟨rfl, rfl⟩) ?_
 show W p S.b263 _ _ (retQ [.t 4] _)
 unfold S.b263
 have n0 := s.len (by decide)
 have hlen : 0 < l.length := List.length_pos_iff.2 hne
 have hd : ∀ n : Nat, decide ((l.length : Int) = (n : Int) + 1) = decide (l.tail.length = n) := fun n => by
  rw [List.length_tail]
  by_cases hq : l.length = n + 1
  ·rw [decide_eq_true (by omega), decide_eq_true (by omega)]
  ·rw [decide_eq_false (by omega), decide_eq_false (by omega)]
 have hd1 : decide ((l.length : Int) = 1) = decide (l.tail.length = 0) := hd 0
 have hd2 : decide ((l.length : Int) = 2) = decide (l.tail.length = 1) := hd 1
 have hd3 : decide ((l.length : Int) = 3) = decide (l.tail.length = 2) := hd 2
 have hd4 : decide ((l.length : Int) = 4) = decide (l.tail.length = 3) := hd 3
 by_cases h4 : k = 4
 ·rw [show countP k l.tail = decide (l.tail.length = 3) by unfold countP; rw [if_pos h4], ← hd4]
  simp [n0, h4]
  exact Keep.refl _ _
 by_cases h5 : k = 5
 ·rw [show countP k l.tail = decide (l.tail.length = 2) by unfold countP; rw [if_neg h4, if_pos h5], ← hd3]
  simp [n0, h5]
  exact Keep.refl _ _
 by_cases h9 : k = 9
 ·rw [show countP k l.tail = decide (l.tail.length = 0) by unfold countP; rw [if_neg h4, if_neg h5, if_neg (by omega), if_pos h9], ← hd1]
  simp [n0, h9]
  exact Keep.refl _ _
 by_cases h7 : k = 7
 ·subst h7
  by_cases h2 : l.length < 2
  ·have h2' : (l.length : Int) < 2 := by omega
   have ht : l.tail = [] := List.eq_nil_of_length_eq_zero (by rw [List.length_tail]; omega)
   rw [ht, show countP 7 [] = false from rfl]
   simp [n0, h2, h2']
   exact Keep.refl _ _
  ·have h2' : ¬ (l.length : Int) < 2 := by omega
   have hm : countP 7 l.tail = shapedP (l.drop 2) := by
    match l, h2 with
    | [], h => simp at h
    | [a], h => simp at h
    | a :: b :: r, _ => rfl
   rw [hm]
   simp [n0, h2, h2']
   refine W_loop (SlI v l h) ?_ (l.length + 1) ⟨2, by omega, by omega, by omega, rfl, rfl, by rw [if_pos (by omega)]⟩
   rintro m e h' ⟨i, hi2, hi3, rfl, rfl, rfl, hs⟩
   rw [hs]
   simp [big] at hl
   by_cases hlt : i < l.length
   ·have hlt' : (i : Int) < l.length := by omega
    rw [if_pos (by omega)] at hs ⊢
    obtain ⟨b, o, x1, x2⟩ := s.word hlt
    have hw3 : IntKind.i64.wrap ((i : Int) + 3) = ((i + 3 : Nat) : Int) := by rw [w64 (by omega) (by omega)]; omega
    have hw2 : IntKind.i64.wrap ((i : Int) + 2) = ((i + 2 : Nat) : Int) := by rw [w64 (by omega) (by omega)]; omega
    have hdn : l.drop i ≠ [] := fun hq => by have := congrArg List.length hq; rw [List.length_drop] at this; simp at this; omega
    have hda : at_ (l.drop i) 0 = at_ l i := by simp [at_]
    by_cases a : at_ l i = wSend
    ·have := shaped3 hdn (by rw [hda]; exact a)
     rw [List.length_drop, List.drop_drop] at this
     simp [n0, hlt, hlt', x1, x2, a, hw3]
     refine ⟨_, by omega, i + 3, by omega, by omega, rfl, rfl, rfl, ?_⟩
     rw [hs, this]
     by_cases h3 : l.length - i < 3
     ·rw [if_pos h3, if_neg (by omega)]
     ·rw [if_neg h3, if_pos (by omega)]
    by_cases b : at_ l i = wRecv
    ·have := shaped2 hdn (by rw [hda]; exact b)
     rw [List.length_drop, List.drop_drop] at this
     simp [n0, hlt, hlt', x1, x2, a, b, hw2]
     refine ⟨_, by omega, i + 2, by omega, by omega, rfl, rfl, rfl, ?_⟩
     rw [hs, this]
     by_cases h3 : l.length - i < 2
     ·rw [if_pos h3, if_neg (by omega)]
     ·rw [if_neg h3, if_pos (by omega)]
    ·have := shaped0 hdn (by rw [hda]; exact a) (by rw [hda]; exact b)
     rw [this]
     simp [n0, hlt, hlt', x1, x2, a, b]
     exact Keep.refl _ _
   ·have hlt' : ¬ (i : Int) < l.length := by omega
    by_cases he : i = l.length
    ·subst he
     rw [if_pos (Nat.le_refl _), List.drop_length]
     simp [n0, shapedP]
     exact Keep.refl _ _
    ·rw [if_neg (by omega)]
     have he' : ¬ (i : Int) = l.length := by omega
     simp [n0, hlt, hlt', he, he']
     exact Keep.refl _ _
 ·rw [show countP k l.tail = decide (l.tail.length = 1) by unfold countP; rw [if_neg h4, if_neg h5, if_neg h7, if_neg h9], ← hd2]
  simp [n0, h4, h5, h7, h9]
  exact Keep.refl _ _
structure RoH (h : Heap) (A O : Nat) (x : OpV) (cv wv : CV) (l : List Wd) (h' : Heap) : Prop where
 k : Keep NoneOf h h'
 a : h'[A]? = some (.arr (oCells op0 .nils) .tight)
 o : h'[O]? = some (.arr (oCells x cv) .tight)
 ow : OwnL caseC h' NoneOf cv x.cases
 ob : ∀ b, cv.blk = some b → h.length ≤ b ∧ b ≠ A ∧ b ≠ O
 s : Sl .str h' (fun k => k ≠ A ∧ k ≠ O ∧ cv.blk ≠ some k) wv l
 a0 : h.length ≤ A
 o0 : h.length ≤ O
 d : A ≠ O
 w : ∀ u ∈ l, u.length < 4294967281
 n : l.length ≤ 200000
section
variable {h h1 h2 : Heap} {A O : Nat} {x : OpV} {cv wv : CV} {l : List Wd}
theorem RoH.on (q : RoH h A O x cv wv l h1) (k : Keep NoneOf h1 h2) : RoH h A O x cv wv l h2 :=
 ⟨q.k.trans k, k.at q.a id, k.at q.o id, q.ow.on k, q.ob, q.s.on k, q.a0, q.o0, q.d, q.w, q.n⟩
theorem RoH.lay (q : RoH h A O x cv wv l h1) (y : OpV) (hy : y.cases = x.cases) : RoH h A O y cv wv l (h1.set O (.arr (oCells y cv) .tight)) := by
 have ke : Keep (fun b => b = O) h1 (h1.set O (.arr (oCells y cv) .tight)) := Keep.set _ _ rfl
 exact ⟨q.k.then ke fun b hb e => by have := q.o0; omega, ke.at q.a q.d, get_set_self (lt_of_get q.o), hy ▸ q.ow.keep ke (fun b hb => (q.ob b hb).2.2) (fun _ hb => hb.elim), q.ob, q.s.keep ke fun k hk => hk.2.1, q.a0, q.o0, q.d, q.w, q.n⟩
theorem RoH.push {c : Case} {n : Nat} {K : CV × Heap → Prop} (q : RoH h A O x cv wv l h1) (hl : x.cases.length ≤ 1000000) (hn : n = 1)
  (kk : ∀ cv' h2, h2[O]? = some (.arr (oCells x cv) .tight) → cv'.scalar = true → RoH h A O { x with cases := x.cases ++ [c] } cv' wv l (h2.set O (.arr (oCells x cv') .tight)) → K (cv', h2)) :
  OV (appendTo (h1 ++ [.arr (caL c) .tight]) 3 cv n (caL c)) K := by
 subst hn
 have kap : Keep NoneOf h1 (h1 ++ [.arr (caL c) .tight]) := Keep.app _ _ _
 refine OV_push (e := caseC) (x := c) (q.ow.on kap) rfl (fun _ hb => hb.elim) (by simp [big]; omega) (by decide) ?_
 intro cv' h2 o2 k2 hb2
 have gO := k2.at (kap.at q.o id) (fun hb => (q.ob _ hb).2.2 rfl)
 have gA := k2.at (kap.at q.a id) (fun hb => (q.ob _ hb).2.1 rfl)
 have hlo := lt_of_get q.o
 have hla := lt_of_get q.a
 have hob : ∀ b, cv'.blk = some b → h.length ≤ b ∧ b ≠ A ∧ b ≠ O := by
  intro b hb
  rcases hb2 b hb with hq | hq
  ·exact q.ob b hq
  ·have := q.k.len
   simp at hq
   exact ⟨by omega, by omega, by omega⟩
 refine kk cv' h2 gO o2.scalar ?_
 have ke : Keep (fun b => b = O) h2 (h2.set O (.arr (oCells x cv') .tight)) := Keep.set _ _ rfl
 have k3 : Keep NoneOf h h2 := (q.k.trans kap).then k2 fun b hb e => by have := q.ob b e; omega
 refine ⟨k3.then ke fun b hb e => by have := q.o0; omega, ke.at gA q.d, get_set_self (lt_of_get gO), o2.keep ke (fun b hb => (hob b hb).2.2) (fun _ hb => hb.elim), hob, ?_, q.a0, q.o0, q.d, q.w, q.n⟩
 refine (((q.s.lt.on kap).keep k2 fun k hk hb => hk.1.2.2 hb).keep ke fun k hk => hk.1.2.1).mono fun k hk => ⟨hk.1.1, hk.1.2.1, fun hb => ?_⟩
 rcases hb2 k hb with hq | hq
 ·exact hk.1.2.2 hq
 ·simp at hq
  omega
end
def RoM (h : Heap) (s : Wd) (e : Env) (h' : Heap) : Prop :=
 ∃ (A O : Nat) (kk : Int) (wv : CV) (l : List Wd), (∃ r, e = (2, .ptr A 0) :: (4, wv) :: (5, .int .i64 0) :: (6, .ptr O 0) :: r) ∧ RoH h A O ⟨kk, 0, 0, 0, []⟩ .nils wv l h' ∧ 1 ≤ kk ∧ kk ≤ 9 ∧ l ≠ [] ∧ countP kk l.tail = true ∧ parseP s = finP (readP kk l.tail)
theorem refParse_head (lp : LP p) {s : Wd} {h : Heap} (hs : s.length ≤ 100000) : W p (front 6 S.b244) [(0, .str s)] h (midQ (RoM h s) (retQ [.cell (some 5) 2, .t 3] (ParK h (parseP s)))) := by
 unfold S.b244 ParK
 simp only [front]
 have ca : ∀ l, (CV.agg l).cells = l := fun _ => rfl
 have cn : (CV.nils).cells = [.nils] := rfl
 have zz : ([.int .i64 0, .int .i64 0, .int .i64 0, .int .i64 0, .nils] : List CV) = oCells op0 .nils := rfl
 simp only [zz]
 have zb : fillC (oCells op0 .nils) [] = some (oCells op0 .nils) := rfl
 have zk : ∀ n : Int, fillC (oCells op0 .nils) [(0, 1, .int .i64 n)] = some (oCells ⟨n, 0, 0, 0, []⟩ .nils) := fun _ => rfl
 have lE : ∀ x cv, (oCells x cv).length = 5 := fun _ _ => rfl
 simp [ca, cn]
 refine (refSplit_spec lp (by omega)).mono ?_
 rintro r h1 ⟨wv, rfl, sl, k1⟩
 have gA := k1.at (b := h.length) (o := .arr (oCells op0 .nils) .tight) (by simp) id
 have K1 : Keep NoneOf h h1 := (Keep.app _ _ _).trans k1
 have stA : ∀ H' : Heap, H'[h.length]? = some (.arr (oCells op0 .nils) .tight) → storeAt H' h.length 0 (oCells op0 .nils) = some (H'.set h.length (.arr (oCells op0 .nils) .tight)) := fun H' g => sto g rfl rfl
 have ret0 : ∀ {H' : Heap}, Keep NoneOf h H' → H'[h.length]? = some (.arr (oCells op0 .nils) .tight) → loadAt (H'.set h.length (.arr (oCells op0 .nils) .tight)) h.length 0 (some 5) = some (.agg (oCells op0 .nils)) ∧ Keep NoneOf h (H'.set h.length (.arr (oCells op0 .nils) .tight)) := fun {H'} k g =>
  ⟨ldw (get_set_self (lt_of_get g)) rfl, k.then (Keep.set (S := fun b => b = h.length) _ _ rfl) fun b hb e => by omega⟩
 have rp0 : ∀ H' : Heap, opC.rep H' (From h) (oCells op0 .nils) op0 := fun H' => ⟨.nils, rfl, Sl.nil⟩
 have hwv := sl.scalar
 cases hws : wordsP s with
 | none =>
   have hP : parseP s = (op0, 2) := by unfold parseP; rw [hws]
   obtain ⟨q1, q2⟩ := ret0 K1 gA
   rw [hP]
   simp [errOf, ca, cn, zb, lE, stA _ gA, q1]
   exact ⟨rp0 _, q2⟩
 | some l =>
   rw [hws] at sl
   have sl : Sl .str h1 (From (h ++ [.arr (oCells op0 .nils) .tight])) wv l := sl
   have nl := sl.len (by decide)
   have hwn := words_ne hws
   have hll := words_len hws
   by_cases h0 : l = []
   ·subst h0
    have hP : parseP s = (op0, 2) := by unfold parseP; rw [hws]
    obtain ⟨q1, q2⟩ := ret0 K1 gA
    have nl : lenV h1 .sl wv = some (.int .i64 0) := nl
    rw [hP]
    simp [errOf, ca, cn, zb, lE, nl, stA _ gA, q1]
    exact ⟨rp0 _, q2⟩
   ·have hl1 : 0 < l.length := List.length_pos_iff.2 h0
    have hl1' : ¬ (l.length : Int) = 0 := by omega
    obtain ⟨b, o, x1, x2⟩ := sl.word hl1
    have x1 : idxAddrV 1 wv (.int .i64 0) = some (.ptr b o) := x1
    simp [errOf, ca, cn, nl, hl1', h0, x1, x2]
    refine (refKind_spec lp).mono ?_
    rintro r h2 ⟨rfl, k2⟩
    have hk9 := kind_le (at_ l 0)
    have hPW : parseP s = parseW (at_ l 0) l.tail := by
     unfold parseP; rw [hws]
     match l, h0 with
     | w :: r, _ => rfl
    unfold parseW at hPW
    generalize kindOf (at_ l 0) = kk at *
    have gA2 := k2.at gA id
    have kO : Keep NoneOf h2 (h2 ++ [.arr (oCells ⟨kk, 0, 0, 0, []⟩ .nils) .tight]) := Keep.app _ _ _
    have stO : storeAt (h2 ++ [.arr (oCells op0 .nils) .tight]) h2.length 0 (oCells ⟨kk, 0, 0, 0, []⟩ .nils) = some (h2 ++ [.arr (oCells ⟨kk, 0, 0, 0, []⟩ .nils) .tight]) := store_new rfl rfl
    have lO : ∀ o, loadAt (h2 ++ [.arr (oCells ⟨kk, 0, 0, 0, []⟩ .nils) .tight]) h2.length o none = (oCells ⟨kk, 0, 0, 0, []⟩ .nils)[o]? := fun o => one0 o
    have gA3 := kO.at gA2 id
    have hla := lt_of_get gA
    have hl12 := k2.len
    have q : RoH h h.length h2.length ⟨kk, 0, 0, 0, []⟩ .nils wv l (h2 ++ [.arr (oCells ⟨kk, 0, 0, 0, []⟩ .nils) .tight]) := by
     refine ⟨(K1.trans k2).trans kO, gA3, by simp, OwnL.nil, by simp [CV.blk], ?_, Nat.le_refl _, by omega, by omega, fun u hu => by have := (hwn u hu).2; omega, by omega⟩
     refine ((sl.lt.on k2).on kO).mono fun k hk => ⟨?_, by omega, by simp [CV.blk]⟩
     have := hk.1
     simp [From] at this
     omega
    simp [zk, ca, lE, stO, lO]
    generalize h2 ++ [Obj.arr (oCells ⟨kk, 0, 0, 0, []⟩ .nils) .tight] = H3 at *
    obtain ⟨q1, q2⟩ := ret0 q.k q.a
    by_cases hz : kk = 0
    ·rw [if_pos (.inl (by omega))] at hPW
     rw [hPW]
     simp [hz, zb, ca, lE, stA _ q.a, q1]
     exact ⟨rp0 _, q2⟩
    ·have lO3 := ld q.o
     simp [hz, lO3]
     refine (refLaid_spec lp q.s (by simp [big]; omega) h0).mono ?_
     rintro r H4 ⟨rfl, k4⟩
     have q4 := q.on k4
     obtain ⟨q1, q2⟩ := ret0 q4.k q4.a
     by_cases hc : countP kk l.tail = false
     ·rw [if_pos (.inr hc)] at hPW
      rw [hPW]
      simp [hc, zb, ca, lE, stA _ q4.a, q1]
      exact ⟨rp0 _, q2⟩
     ·rw [if_neg fun hq => by
       rcases hq with hq | hq
       ·omega
       ·exact hc hq] at hPW
      rw [Bool.not_eq_false] at hc
      simp [hc]
      exact ⟨_, _, kk, wv, l, ⟨_, rfl⟩, q4, by omega, hk9.2, h0, hc, hPW⟩
def RoN (h : Heap) (s : Wd) (e : Env) (h' : Heap) : Prop :=
 ∃ (A O : Nat) (x : OpV) (cv wv : CV) (l : List Wd) (e0 : Int), (∃ k0 v0 r, e = (k0, v0) :: r) ∧ e.get 2 = some (.ptr A 0) ∧ e.get 5 = some (.int .i64 e0) ∧ e.get 6 = some (.ptr O 0) ∧ RoH h A O x cv wv l h' ∧ parseP s = finP (x, e0)
theorem finP_err {x : OpV} {e : Int} (h : e ≠ 0) : finP (x, e) = (op0, e) := by unfold finP; rw [if_neg h]
theorem finW (f : Int → OpV) (w : Wd) : finP (f (waitR 0 w).1, (waitR 0 w).2) = finP (f (refW w).1, (refW w).2) := by
 have := refW_eq w
 rw [← this.1]
 by_cases h : (refW w).2 = 0
 ·rw [this.2 h]
 ·rw [finP_err h, finP_err h]
theorem numR0 (a : Wd) : numR 0 a = numP a := by unfold numR; rw [if_pos rfl]
def RoL (h : Heap) (A O : Nat) (wt : Int) (wv : CV) (l : List Wd) (m : Nat) (e : Env) (h' : Heap) : Prop :=
 ∃ (i : Nat) (acc : List Case) (e1 : Int) (cv : CV), (∃ r, e = (2, .ptr A 0) :: (4, wv) :: (5, .int .i64 e1) :: (6, .ptr O 0) :: (7, .int .i64 i) :: r) ∧ RoH h A O ⟨7, 0, 0, wt, acc⟩ cv wv l h' ∧ 2 ≤ i ∧ acc.length ≤ i ∧ i ≤ l.length + 3 ∧ m = l.length + 3 - i ∧
  (e1 = 0 → i ≤ l.length ∧ shapedP (l.drop i) = true ∧ refRun (l.drop 2) [] = refRun (l.drop i) acc) ∧ (e1 ≠ 0 → refRun (l.drop 2) [] = (acc, e1))
theorem RoH.new {h h1 h2 : Heap} {A O : Nat} {x : OpV} {cv wv : CV} {l : List Wd} (q : RoH h A O x cv wv l h1) (k : Keep (fun b => b = h1.length) h1 h2) : RoH h A O x cv wv l h2 :=
 q.on (k.mono fun i hi e => by omega)
theorem clamp40_if (n : Int) : clamp40 n = if n < -1099511627776 ∨ 1099511627776 < n then -1 else n := rfl
structure RoC (h : Heap) (A O b : Nat) (x : OpV) (cv wv : CV) (l : List Wd) (i : Nat) (n : Int) (C : Case) (e2 : Int) (i2 : Nat) (h' : Heap) : Prop where
 q : RoH h A O x cv wv l h'
 c : h'[b]? = some (.arr (caL C) .tight)
 d : (at_ l i = wSend ∧ C = ⟨true, clamp40 n, (numP (at_ l (i + 2))).1⟩ ∧ e2 = (numP (at_ l (i + 2))).2 ∧ i2 = i + 1) ∨ (at_ l i ≠ wSend ∧ C = ⟨false, clamp40 n, 0⟩ ∧ e2 = 0 ∧ i2 = i)
theorem refParse_mid (lp : LP p) {s : Wd} {h h' : Heap} {e : Env} (m : RoM h s e h') : W p (front 2 (back 6 S.b244)) e h' (midQ (RoN h s) (retQ [.cell (some 5) 2, .t 3] (ParK h (parseP s)))) := by
 obtain ⟨A, O, kk, wv, l, ⟨rr, rfl⟩, q, h1, h9, hl0, hc, hP⟩ := m
 unfold S.b244 ParK
 simp only [front, back]
 have ca : ∀ l, (CV.agg l).cells = l := fun _ => rfl
 have zz : ([.int .i64 0, .int .i64 0, .int .i64 0, .int .i64 0, .nils] : List CV) = oCells op0 .nils := rfl
 simp only [zz]
 have zb : fillC (oCells op0 .nils) [] = some (oCells op0 .nils) := rfl
 have lE : ∀ x cv, (oCells x cv).length = 5 := fun _ _ => rfl
 have stA : ∀ {H' : Heap}, H'[A]? = some (.arr (oCells op0 .nils) .tight) → storeAt H' A 0 (oCells op0 .nils) = some (H'.set A (.arr (oCells op0 .nils) .tight)) := fun g => sto g rfl rfl
 have ret0 : ∀ {H' : Heap} {x cv}, RoH h A O x cv wv l H' → loadAt (H'.set A (.arr (oCells op0 .nils) .tight)) A 0 (some 5) = some (.agg (oCells op0 .nils)) ∧ Keep NoneOf h (H'.set A (.arr (oCells op0 .nils) .tight)) := fun {H' x cv} q =>
  ⟨ldw (get_set_self (lt_of_get q.a)) rfl, q.k.then (Keep.set (S := fun b => b = A) _ _ rfl) fun b hb e => by have := q.a0; omega⟩
 have rp0 : ∀ H' : Heap, opC.rep H' (From h) (oCells op0 .nils) op0 := fun H' => ⟨.nils, rfl, Sl.nil⟩
 have hset1 : ∀ (x : OpV) (cv v : CV), (oCells x cv).set 1 v = [.int .i64 x.kind, v, .int .i64 x.v, .int .i64 x.wait, cv] := fun _ _ _ => rfl
 have hset2 : ∀ (x : OpV) (cv v : CV), (oCells x cv).set 2 v = [.int .i64 x.kind, .int .i64 x.n, v, .int .i64 x.wait, cv] := fun _ _ _ => rfl
 have hset3 : ∀ (x : OpV) (cv v : CV), (oCells x cv).set 3 v = [.int .i64 x.kind, .int .i64 x.n, .int .i64 x.v, v, cv] := fun _ _ _ => rfl
 have hll : 0 < l.length := List.length_pos_iff.2 hl0
 have lO := ld q.o
 have hlt : l.tail.length + 1 = l.length := by rw [List.length_tail]; omega
 have num : ∀ {H' : Heap} {i : Nat} {K : CV → Heap → Prop}, i < l.length → (∀ h2, Keep NoneOf H' h2 → K (.tup [.int .i64 (numP (at_ l i)).1, .int .i64 (numP (at_ l i)).2]) h2) → WF p 95 [.str (at_ l i)] H' K := fun {H' i K} hi k => by
  have hat : at_ l i = l[i] := by simp [at_, List.getElem?_eq_getElem hi]
  refine (refNumber_spec lp (by rw [hat]; exact q.w _ (List.getElem_mem hi))).mono fun r h2 hr => ?_
  rw [hr.1]
  exact k h2 hr.2
 have wai : ∀ {H' : Heap} {i : Nat} {K : CV → Heap → Prop}, i < l.length → (∀ h2, Keep NoneOf H' h2 → K (.tup [.int .i64 (refW (at_ l i)).1, .int .i64 (refW (at_ l i)).2]) h2) → WF p 264 [.str (at_ l i)] H' K := fun {H' i K} hi k => by
  have hat : at_ l i = l[i] := by simp [at_, List.getElem?_eq_getElem hi]
  refine (refParseWait_spec lp (by rw [hat]; exact q.w _ (List.getElem_mem hi))).mono fun r h2 hr => ?_
  rw [hr.1]
  exact k h2 hr.2
 have at1 : ∀ i, at_ l.tail i = at_ l (i + 1) := fun i => tail_at
 unfold countP at hc
 by_cases h4 : kk = 4
 ·subst h4
  simp at hc
  have l4 : l.length = 4 := by omega
  have hP : parseP s = finP (⟨4, (numP (at_ l 1)).1, (numR (numP (at_ l 1)).2 (at_ l 2)).1, (waitR (numR (numP (at_ l 1)).2 (at_ l 2)).2 (at_ l 3)).1, []⟩, (waitR (numR (numP (at_ l 1)).2 (at_ l 2)).2 (at_ l 3)).2) := by
   rw [hP]
   unfold readP
   rw [if_pos rfl]
   simp only [at1, numR0, Nat.zero_add, Nat.reduceAdd]
  obtain ⟨b1, o1, x1, y1⟩ := q.s.word (i := 1) (by omega)
  have x1 : idxAddrV 1 wv (.int .i64 1) = some (.ptr b1 o1) := x1
  simp [lO, x1, y1]
  refine num (by omega) fun h2 k2 => ?_
  have q2 := q.on k2
  have s2 := sto1 q2.o (o := 1) (v := .int .i64 (numP (at_ l 1)).1) (by rw [lE]; omega) rfl
  rw [hset1] at s2
  have q3 := q2.lay ⟨4, (numP (at_ l 1)).1, 0, 0, []⟩ rfl
  change RoH h A O _ _ _ _ (h2.set O (.arr [.int .i64 4, .int .i64 (numP (at_ l 1)).1, .int .i64 0, .int .i64 0, .nils] .tight)) at q3
  simp [s2, ca]
  generalize h2.set O (.arr [.int .i64 4, .int .i64 (numP (at_ l 1)).1, .int .i64 0, .int .i64 0, .nils] .tight) = H3 at *
  by_cases e1 : (numP (at_ l 1)).2 = 0
  ·rw [e1] at hP
   rw [numR0] at hP
   have lO3 := ld q3.o
   obtain ⟨b2, o2, x2, y2⟩ := q3.s.word (i := 2) (by omega)
   have x2 : idxAddrV 1 wv (.int .i64 2) = some (.ptr b2 o2) := x2
   simp [e1, lO3, x2, y2]
   refine num (by omega) fun h4 k4 => ?_
   have q4 := q3.on k4
   have s4 := sto1 q4.o (o := 2) (v := .int .i64 (numP (at_ l 2)).1) (by rw [lE]; omega) rfl
   rw [hset2] at s4
   have q5 := q4.lay ⟨4, (numP (at_ l 1)).1, (numP (at_ l 2)).1, 0, []⟩ rfl
   change RoH h A O _ _ _ _ (h4.set O (.arr [.int .i64 4, .int .i64 (numP (at_ l 1)).1, .int .i64 (numP (at_ l 2)).1, .int .i64 0, .nils] .tight)) at q5
   simp [s4, ca]
   generalize h4.set O (.arr [.int .i64 4, .int .i64 (numP (at_ l 1)).1, .int .i64 (numP (at_ l 2)).1, .int .i64 0, .nils] .tight) = H5 at *
   by_cases e2 : (numP (at_ l 2)).2 = 0
   ·rw [e2] at hP
    obtain ⟨b3, o3, x3, y3⟩ := q5.s.word (i := 3) (by omega)
    have x3 : idxAddrV 1 wv (.int .i64 3) = some (.ptr b3 o3) := x3
    simp [e2, x3, y3]
    refine wai (by omega) fun h6 k6 => ?_
    have q6 := q5.on k6
    have s6 := sto1 q6.o (o := 3) (v := .int .i64 (refW (at_ l 3)).1) (by rw [lE]; omega) rfl
    rw [hset3] at s6
    have q7 := q6.lay ⟨4, (numP (at_ l 1)).1, (numP (at_ l 2)).1, (refW (at_ l 3)).1, []⟩ rfl
    simp [s6, ca]
    exact ⟨A, O, _, _, wv, l, _, ⟨_, _, _, rfl⟩, rfl, rfl, rfl, q7, hP.trans (finW (fun w => ⟨4, (numP (at_ l 1)).1, (numP (at_ l 2)).1, w, []⟩) _)⟩
   ·rw [waitR_err e2, finP_err e2] at hP
    simp [e2]
    exact ⟨A, O, _, _, wv, l, _, ⟨_, _, _, rfl⟩, rfl, rfl, rfl, q5, hP.trans (finP_err e2).symm⟩
  ·rw [numR_err e1, waitR_err e1, finP_err e1] at hP
   obtain ⟨z1, z2⟩ := ret0 q3
   rw [hP]
   simp [e1, zb, lE, stA q3.a, z1]
   exact ⟨rp0 _, z2⟩
 rw [if_neg h4] at hc
 by_cases h5 : kk = 5
 ·subst h5
  simp at hc
  have l4 : l.length = 3 := by omega
  have hP : parseP s = finP (⟨5, (numP (at_ l 1)).1, 0, (waitR (numP (at_ l 1)).2 (at_ l 2)).1, []⟩, (waitR (numP (at_ l 1)).2 (at_ l 2)).2) := by
   rw [hP]
   unfold readP
   rw [if_neg h4, if_pos rfl]
   simp only [at1, numR0, Nat.zero_add, Nat.reduceAdd]
  obtain ⟨b1, o1, x1, y1⟩ := q.s.word (i := 1) (by omega)
  have x1 : idxAddrV 1 wv (.int .i64 1) = some (.ptr b1 o1) := x1
  simp [lO, x1, y1]
  refine num (by omega) fun h2 k2 => ?_
  have q2 := q.on k2
  have s2 := sto1 q2.o (o := 1) (v := .int .i64 (numP (at_ l 1)).1) (by rw [lE]; omega) rfl
  rw [hset1] at s2
  have q3 := q2.lay ⟨5, (numP (at_ l 1)).1, 0, 0, []⟩ rfl
  change RoH h A O _ _ _ _ (h2.set O (.arr [.int .i64 5, .int .i64 (numP (at_ l 1)).1, .int .i64 0, .int .i64 0, .nils] .tight)) at q3
  simp [s2, ca]
  generalize h2.set O (.arr [.int .i64 5, .int .i64 (numP (at_ l 1)).1, .int .i64 0, .int .i64 0, .nils] .tight) = H3 at *
  by_cases e1 : (numP (at_ l 1)).2 = 0
  ·rw [e1] at hP
   have lO3 := ld q3.o
   obtain ⟨b2, o2, x2, y2⟩ := q3.s.word (i := 2) (by omega)
   have x2 : idxAddrV 1 wv (.int .i64 2) = some (.ptr b2 o2) := x2
   simp [e1, lO3, x2, y2]
   refine wai (by omega) fun h6 k6 => ?_
   have q6 := q3.on k6
   have s6 := sto1 q6.o (o := 3) (v := .int .i64 (refW (at_ l 2)).1) (by rw [lE]; omega) rfl
   rw [hset3] at s6
   have q7 := q6.lay ⟨5, (numP (at_ l 1)).1, 0, (refW (at_ l 2)).1, []⟩ rfl
   simp [s6, ca]
   exact ⟨A, O, _, _, wv, l, _, ⟨_, _, _, rfl⟩, rfl, rfl, rfl, q7, hP.trans (finW (fun w => ⟨5, (numP (at_ l 1)).1, 0, w, []⟩) _)⟩
  ·rw [waitR_err e1, finP_err e1] at hP
   obtain ⟨z1, z2⟩ := ret0 q3
   rw [hP]
   simp [e1, zb, lE, stA q3.a, z1]
   exact ⟨rp0 _, z2⟩
 rw [if_neg h5] at hc
 by_cases h7 : kk = 7
 ·subst h7
  have hc7 : countP 7 l.tail = true := by unfold countP; rw [if_neg h4, if_neg h5]; exact hc
  have hl2 : 2 ≤ l.length ∧ shapedP (l.drop 2) = true := by
   match l, hc with
   | [a], h => simp at h
   | a :: b :: r, h => exact ⟨by simp, h⟩
  have htt : l.tail.tail = l.drop 2 := by cases l with | nil => rfl | cons a r => simp
  rw [← ref_eq hc7] at hP
  unfold refP at hP
  rw [if_pos rfl, htt] at hP
  simp only [at1, Nat.zero_add, Nat.reduceAdd] at hP
  have hW := refW_eq (at_ l 1)
  rw [← hW.1] at hP
  obtain ⟨b1, o1, x1, y1⟩ := q.s.word (i := 1) (by omega)
  have x1 : idxAddrV 1 wv (.int .i64 1) = some (.ptr b1 o1) := x1
  simp [lO, x1, y1]
  refine wai (by omega) fun h2 k2 => ?_
  have q2 := q.on k2
  have s2 := sto1 q2.o (o := 3) (v := .int .i64 (refW (at_ l 1)).1) (by rw [lE]; omega) rfl
  rw [hset3] at s2
  have q3 := q2.lay ⟨7, 0, 0, (refW (at_ l 1)).1, []⟩ rfl
  change RoH h A O _ _ _ _ (h2.set O (.arr [.int .i64 7, .int .i64 0, .int .i64 0, .int .i64 (refW (at_ l 1)).1, .nils] .tight)) at q3
  simp [s2, ca]
  generalize h2.set O (.arr [.int .i64 7, .int .i64 0, .int .i64 0, .int .i64 (refW (at_ l 1)).1, .nils] .tight) = H3 at *
  have fin : ∀ acc er, (refW (at_ l 1)).2 = 0 → refRun (l.drop 2) [] = (acc, er) → parseP s = finP (⟨7, 0, 0, (refW (at_ l 1)).1, acc⟩, er) := fun acc er h0 hr => by
   rw [hP, if_neg (by simpa using h0), hr, hW.2 h0]
  by_cases e0 : (refW (at_ l 1)).2 = 0
  case neg =>
   rw [if_pos e0] at hP
   refine W_loop (fun m e h' => m = 0 ∧ e = [(2, .ptr A 0), (4, wv), (5, .int .i64 (refW (at_ l 1)).2), (6, .ptr O 0), (7, .int .i64 2)] ∧ h' = H3) ?_ 0 ⟨rfl, rfl, rfl⟩
   rintro m e h' ⟨rfl, rfl, rfl⟩
   have nl := q3.s.len (by decide)
   have hr : parseP s = finP (⟨7, 0, 0, (refW (at_ l 1)).1, []⟩, (refW (at_ l 1)).2) := hP.trans (finP_err e0).symm
   by_cases hlt : (2 : Int) < l.length
   ·have hlt2 : 2 < l.length := by omega
    simp [nl, hlt, hlt2, e0]
    exact ⟨A, O, _, _, wv, l, _, ⟨_, _, _, rfl⟩, rfl, rfl, rfl, q3, hr⟩
   ·have hlt2 : ¬ 2 < l.length := by omega
    simp [nl, hlt, hlt2, e0]
    exact ⟨A, O, _, _, wv, l, _, ⟨_, _, _, rfl⟩, rfl, rfl, rfl, q3, hr⟩
  rw [e0]
  clear hP
  refine W_loop (RoL h A O (refW (at_ l 1)).1 wv l) ?_ (l.length + 1) ⟨2, [], 0, .nils, ⟨_, rfl⟩, q3, by omega, by simp, by omega, by omega, fun _ => ⟨hl2.1, hl2.2, rfl⟩, fun hn => absurd rfl hn⟩
  generalize (refW (at_ l 1)).1 = wt at *
  clear q q2 q3 lO s2 x1 y1 stA ret0 k2 hW
  rintro m e H ⟨i, acc, e1, cv, ⟨r2, rfl⟩, q, hi2, hacc, hi3, rfl, hz, hnz⟩
  have nl := q.s.len (by decide)
  have qn := q.n
  by_cases he : e1 = 0
  case neg =>
   have hr := hnz he
   by_cases hlt : (i : Int) < l.length
   ·have hlt2 : i < l.length := by omega
    simp [nl, hlt, hlt2, he]
    exact ⟨A, O, _, _, wv, l, _, ⟨_, _, _, rfl⟩, rfl, rfl, rfl, q, fin _ _ e0 hr⟩
   ·have hlt2 : ¬ i < l.length := by omega
    simp [nl, hlt, hlt2, he]
    exact ⟨A, O, _, _, wv, l, _, ⟨_, _, _, rfl⟩, rfl, rfl, rfl, q, fin _ _ e0 hr⟩
  subst he
  obtain ⟨z1, z2, z3⟩ := hz rfl
  by_cases hie : i = l.length
  ·subst hie
   rw [List.drop_length] at z3
   simp [nl]
   exact ⟨A, O, _, _, wv, l, _, ⟨_, _, _, rfl⟩, rfl, rfl, rfl, q, fin _ _ e0 z3⟩
  have hlt2 : i < l.length := by omega
  have hlt : (i : Int) < l.length := by omega
  have hdn : l.drop i ≠ [] := fun hq => by have := congrArg List.length hq; rw [List.length_drop] at this; simp at this; omega
  have hw1 : IntKind.i64.wrap ((i : Int) + 1) = ((i + 1 : Nat) : Int) := by rw [w64 (by omega) (by omega)]; omega
  have hw2 : IntKind.i64.wrap ((i : Int) + 2) = ((i + 2 : Nat) : Int) := by rw [w64 (by omega) (by omega)]; omega
  have hst : (at_ l i = wSend ∧ i + 3 ≤ l.length ∧ shapedP (l.drop (i + 3)) = true ∧ refRun (l.drop i) acc = if (numP (at_ l (i + 1))).2 ≠ 0 then (acc, (numP (at_ l (i + 1))).2) else if (numP (at_ l (i + 2))).2 = 0 then refRun (l.drop (i + 3)) (acc ++ [⟨true, clamp40 (numP (at_ l (i + 1))).1, (numP (at_ l (i + 2))).1⟩]) else (acc ++ [⟨true, clamp40 (numP (at_ l (i + 1))).1, (numP (at_ l (i + 2))).1⟩], (numP (at_ l (i + 2))).2)) ∨
    (at_ l i ≠ wSend ∧ i + 2 ≤ l.length ∧ shapedP (l.drop (i + 2)) = true ∧ refRun (l.drop i) acc = if (numP (at_ l (i + 1))).2 ≠ 0 then (acc, (numP (at_ l (i + 1))).2) else refRun (l.drop (i + 2)) (acc ++ [⟨false, clamp40 (numP (at_ l (i + 1))).1, 0⟩])) := by
   have ha0 : at_ (l.drop i) 0 = at_ l i := by simp [at_]
   have ha1 : at_ (l.drop i) 1 = at_ l (i + 1) := by simp [at_]
   have ha2 : at_ (l.drop i) 2 = at_ l (i + 2) := by simp [at_]
   have hd2 : l.drop (i + 2) = (l.drop i).drop 2 := by rw [List.drop_drop]
   have hd3 : l.drop (i + 3) = (l.drop i).drop 3 := by rw [List.drop_drop]
   have hln : (l.drop i).length = l.length - i := List.length_drop
   rw [← ha0, ← ha1, ← ha2, hd2, hd3]
   rcases shaped_cases z2 with hq | ⟨a, b, r, hq, hr⟩ | ⟨a, r, hq, hr⟩
   ·exact absurd hq hdn
   ·rw [hq] at hln ⊢
    simp at hln
    exact .inl ⟨rfl, by omega, hr, refRun_send⟩
   ·rw [hq] at hln ⊢
    simp at hln
    exact .inr ⟨recv_send, by omega, hr, refRun_recv⟩
  have hl1 : i + 1 < l.length := by rcases hst with h | h <;> omega
  obtain ⟨b1, o1, x1, y1⟩ := q.s.word hl1
  simp [nl, hlt, hlt2, hw1]
  rw [show ((i : Int) + 1) = ((i + 1 : Nat) : Int) by omega]
  simp only [x1]
  simp [y1]
  refine num hl1 fun h4 k4 => ?_
  have q4 := q.on k4
  clear x1 y1
  by_cases hf : (numP (at_ l (i + 1))).2 = 0
  case neg =>
   have hr : refRun (l.drop 2) [] = (acc, (numP (at_ l (i + 1))).2) := by
    rw [z3]
    rcases hst with h | h
    ·rw [h.2.2.2, if_pos hf]
    ·rw [h.2.2.2, if_pos hf]
   simp [hf]
   exact ⟨A, O, _, _, wv, l, _, ⟨_, _, _, rfl⟩, rfl, rfl, rfl, q4, fin _ _ e0 hr⟩
  simp [hf]
  refine WO_cut (fun e' => e'.get 2 = some (.ptr A 0) ∧ e'.get 4 = some wv ∧ e'.get 5 = some (.int .i64 0) ∧ e'.get 6 = some (.ptr O 0) ∧ e'.get 7 = some (.int .i64 i) ∧ e'.get 8 = some (.int .i64 (numP (at_ l (i + 1))).1) ∧ e'.get 127 = some (.bool (decide ((numP (at_ l (i + 1))).1 < -1099511627776 ∨ 1099511627776 < (numP (at_ l (i + 1))).1)))) ?_ ?_
  ·by_cases a1 : (numP (at_ l (i + 1))).1 < -1099511627776
   ·simp [a1]
   by_cases a2 : 1099511627776 < (numP (at_ l (i + 1))).1
   all_goals simp [a1, a2]
  rintro e' ⟨p2, p4, p5, p6, p7, p8, p127⟩
  simp only [p2, p4, p5, p6, p7, p8, p127]
  simp
  generalize hB : (decide ((numP (at_ l (i + 1))).1 < -1099511627776) || decide (1099511627776 < (numP (at_ l (i + 1))).1)) = B at *
  refine W_to (fun env H' => H' = h4 ∧ ∃ r, env = (2, .ptr A 0) :: (4, wv) :: (5, .int .i64 0) :: (6, .ptr O 0) :: (7, .int .i64 i) :: (8, .int .i64 (clamp40 (numP (at_ l (i + 1))).1)) :: r) ?_ ?_
  ·cases B with
   | true =>
     have : clamp40 (numP (at_ l (i + 1))).1 = -1 := by rw [clamp40_if, if_pos (by simpa using hB)]
     rw [this]
     simp
   | false =>
     have : clamp40 (numP (at_ l (i + 1))).1 = (numP (at_ l (i + 1))).1 := by rw [clamp40_if, if_neg (by simpa using hB)]
     rw [this]
     simp
  clear p2 p4 p5 p6 p7 p8 p127 hB e'
  rintro e' H' ⟨rfl, r3, rfl⟩
  generalize hn : (numP (at_ l (i + 1))).1 = n at *
  have hfc : fillC [.bool false, .int .i64 0, .int .i64 0] [(1, 1, .int .i64 (clamp40 n))] = some (caL ⟨false, clamp40 n, 0⟩) := rfl
  have hlc : ∀ c, (caL c).length = 3 := fun _ => rfl
  have st := store_new (h := H') (z := [.bool false, .int .i64 0, .int .i64 0]) (row := caL ⟨false, clamp40 n, 0⟩) rfl rfl
  have kap : Keep (fun b => b = H'.length) H' (H' ++ [.arr (caL ⟨false, clamp40 n, 0⟩) .tight]) := Keep.app _ _ _
  have q5 := q4.new kap
  have gC : (H' ++ [Obj.arr (caL ⟨false, clamp40 n, 0⟩) .tight])[H'.length]? = some (.arr (caL ⟨false, clamp40 n, 0⟩) .tight) := by simp
  obtain ⟨b2, o2, x2, y2⟩ := q5.s.word hlt2
  simp [hfc, ca, hlc, st, x2, y2]
  refine W_to (fun env H5 => ∃ (C : Case) (e2 : Int) (i2 : Nat) (r : Env), env = (2, .ptr A 0) :: (4, wv) :: (5, .int .i64 e2) :: (6, .ptr O 0) :: (7, .int .i64 i2) :: (10, .ptr H'.length 0) :: r ∧ RoC h A O H'.length ⟨7, 0, 0, wt, acc⟩ cv wv l i n C e2 i2 H5) ?_ ?_
  ·by_cases hs : at_ l i = wSend
   ·have hl3 : i + 2 < l.length := by
     rcases hst with hq | hq
     ·omega
     ·exact absurd hs hq.1
    have s6 := sto1 gC (o := 0) (v := .bool true) (by rw [hlc]; omega) rfl
    have hca : (caL ⟨false, clamp40 n, 0⟩).set 0 (.bool true) = caL ⟨true, clamp40 n, 0⟩ := rfl
    rw [hca] at s6
    rw [show (H' ++ [Obj.arr (caL ⟨false, clamp40 n, 0⟩) .tight]).set H'.length (Obj.arr (caL ⟨true, clamp40 n, 0⟩) .tight) = H' ++ [Obj.arr (caL ⟨true, clamp40 n, 0⟩) .tight] by simp] at s6
    have kap6 : Keep (fun b => b = H'.length) H' (H' ++ [Obj.arr (caL ⟨true, clamp40 n, 0⟩) .tight]) := Keep.app _ _ _
    have q6 := q4.new kap6
    have gC6 : (H' ++ [Obj.arr (caL ⟨true, clamp40 n, 0⟩) .tight])[H'.length]? = some (.arr (caL ⟨true, clamp40 n, 0⟩) .tight) := by simp
    obtain ⟨b3, o3, x3, y3⟩ := q6.s.word hl3
    simp [hs, s6, hw2]
    generalize H' ++ [Obj.arr (caL ⟨true, clamp40 n, 0⟩) .tight] = H6 at *
    rw [show ((i : Int) + 2) = ((i + 2 : Nat) : Int) by omega]
    simp only [x3]
    simp [y3]
    refine num hl3 fun H7 k7 => ?_
    have gC7 := k7.at gC6 id
    have s8 := sto1 gC7 (o := 2) (v := .int .i64 (numP (at_ l (i + 2))).1) (by rw [hlc]; omega) rfl
    have hca2 : (caL ⟨true, clamp40 n, 0⟩).set 2 (.int .i64 (numP (at_ l (i + 2))).1) = caL ⟨true, clamp40 n, (numP (at_ l (i + 2))).1⟩ := rfl
    rw [hca2] at s8
    have k8 : Keep (fun b => b = H'.length) H7 (H7.set H'.length (.arr (caL ⟨true, clamp40 n, (numP (at_ l (i + 2))).1⟩) .tight)) := Keep.set _ _ rfl
    have q8 := q4.new ((kap6.trans (k7.mono fun _ _ hn => hn.elim)).trans k8)
    simp [s8, hw1]
    exact ⟨_, _, i + 1, ⟨rfl, rfl⟩, ⟨q8, get_set_self (lt_of_get gC7), .inl ⟨hs, rfl, rfl, rfl⟩⟩⟩
   ·simp [hs]
    exact ⟨_, 0, i, ⟨rfl, rfl⟩, ⟨q5, gC, .inr ⟨hs, rfl, rfl, rfl⟩⟩⟩
  clear q5 gC x2 y2 st kap
  rintro e' H5 ⟨C, e2, i2, r4, rfl, c⟩
  have lO5 := ld c.q.o
  have l10 := ldw c.c (hlc C)
  have hf3 : fillC [.bool false, .int .i64 0, .int .i64 0] [(0, 3, .agg (caL C))] = some (caL C) := rfl
  have htc : List.take 3 (caL C) = caL C := rfl
  have hwi : IntKind.i64.wrap ((i2 : Int) + 2) = ((i2 + 2 : Nat) : Int) := by
   have : i2 ≤ i + 1 := by rcases c.d with h | h <;> omega
   rw [w64 (by omega) (by omega)]; omega
  simp [lO5, l10, hf3, spread, cellsAt, hlc, htc]
  refine c.q.push (c := C) (by simp only; omega) rfl ?_
  intro cv' H6 g6 hsc q6
  have s6 := sto1 g6 (o := 4) (v := cv') (by rw [lE]; omega) hsc
  have hset4 : (oCells ⟨7, 0, 0, wt, acc⟩ cv).set 4 cv' = oCells ⟨7, 0, 0, wt, acc⟩ cv' := rfl
  rw [hset4] at s6
  have fs := fits_scalar hsc
  have cs := CV.cells_scalar hsc
  simp [fs, cs, s6, hwi]
  have hd := c.d
  refine ⟨l.length + 3 - (i2 + 2), by rcases hd with hq | hq <;> omega, i2 + 2, acc ++ [C], e2, cv', ⟨_, rfl⟩, q6, by omega, by rcases hd with hq | hq <;> simp <;> omega, ?_, rfl, ?_, ?_⟩
  ·rcases hst with hq | hq <;> rcases hd with hr | hr
   ·omega
   ·exact absurd hq.1 hr.1
   ·exact absurd hr.1 hq.1
   ·omega
  ·intro h0
   rcases hst with hq | hq <;> rcases hd with hr | hr
   ·rw [hr.2.2.2]
    refine ⟨by omega, hq.2.2.1, ?_⟩
    rw [z3, hq.2.2.2, if_neg (by simpa using hf), if_pos (by rw [← hr.2.2.1]; exact h0), hr.2.1]
   ·exact absurd hq.1 hr.1
   ·exact absurd hr.1 hq.1
   ·rw [hr.2.2.2]
    refine ⟨by omega, hq.2.2.1, ?_⟩
    rw [z3, hq.2.2.2, if_neg (by simpa using hf), hr.2.1]
  ·intro h0
   rcases hst with hq | hq <;> rcases hd with hr | hr
   ·rw [z3, hq.2.2.2, if_neg (by simpa using hf), if_neg (by rw [← hr.2.2.1]; exact h0), hr.2.1, hr.2.2.1]
   ·exact absurd hq.1 hr.1
   ·exact absurd hr.1 hq.1
   ·exact absurd hr.2.2.1 h0
 rw [if_neg h7] at hc
 by_cases h9 : kk = 9
 ·subst h9
  have hP : parseP s = finP (⟨9, 0, 0, 0, []⟩, 0) := hP
  simp [lO]
  exact ⟨A, O, _, _, wv, l, _, ⟨_, _, _, rfl⟩, rfl, rfl, rfl, q, hP⟩
 rw [if_neg h9] at hc
 simp at hc
 have hP : parseP s = finP (⟨kk, (numP (at_ l 1)).1, 0, 0, []⟩, (numP (at_ l 1)).2) := by
  rw [hP]
  unfold readP
  rw [if_neg h4, if_neg h5, if_neg h7, if_neg h9]
  simp only [at1, numR0, Nat.zero_add, Nat.reduceAdd]
 obtain ⟨b1, o1, x1, y1⟩ := q.s.word (i := 1) (by omega)
 have x1 : idxAddrV 1 wv (.int .i64 1) = some (.ptr b1 o1) := x1
 simp [lO, x1, y1, h9, h7]
 refine num (by omega) fun h2 k2 => ?_
 have q2 := q.on k2
 have s2 := sto1 q2.o (o := 1) (v := .int .i64 (numP (at_ l 1)).1) (by rw [lE]; omega) rfl
 rw [hset1] at s2
 have q3 := q2.lay ⟨kk, (numP (at_ l 1)).1, 0, 0, []⟩ rfl
 change RoH h A O _ _ _ _ (h2.set O (.arr [.int .i64 kk, .int .i64 (numP (at_ l 1)).1, .int .i64 0, .int .i64 0, .nils] .tight)) at q3
 simp [s2, ca]
 generalize h2.set O (.arr [.int .i64 kk, .int .i64 (numP (at_ l 1)).1, .int .i64 0, .int .i64 0, .nils] .tight) = H3 at *
 by_cases e1 : (numP (at_ l 1)).2 = 0
 ·have lO3 := ld q3.o
  rw [e1] at hP
  simp [e1, lO3, h4, h5, h7]
  exact ⟨A, O, _, _, wv, l, _, ⟨_, _, _, rfl⟩, rfl, rfl, rfl, q3, hP⟩
 ·rw [finP_err e1] at hP
  obtain ⟨z1, z2⟩ := ret0 q3
  rw [hP]
  simp [e1, zb, lE, stA q3.a, z1]
  exact ⟨rp0 _, z2⟩
theorem refParse_tail (lp : LP p) {s : Wd} {h h' : Heap} {e : Env} (m : RoN h s e h') : W p (back 8 S.b244) e h' (retQ [.cell (some 5) 2, .t 3] (ParK h (parseP s))) := by
 obtain ⟨A, O, X, cv, wv, l, e1, ⟨k0, v0, r0, rfl⟩, g2, g5, g6, q, hP⟩ := m
 simp only [Env.get_cons] at g2 g5 g6
 unfold S.b244 ParK
 simp only [back]
 rw [hP]
 have l9 := ldw q.o (show (oCells X cv).length = 5 from rfl)
 have hsc := q.ow.scalar
 have fsc : (oCells X cv).all CV.scalar = true := by simp only [oCells, List.all_cons, List.all_nil, hsc]; rfl
 have lE : ∀ x cv, (oCells x cv).length = 5 := fun _ _ => rfl
 have ca : ∀ l, (CV.agg l).cells = l := fun _ => rfl
 have gX : ∀ H' : Heap, Keep NoneOf h H' → H'[A]? = some (.arr (oCells op0 .nils) .tight) → ∀ (y : OpV) (c : CV), (oCells y c).all CV.scalar = true → storeAt H' A 0 (oCells y c) = some (H'.set A (.arr (oCells y c) .tight)) ∧ loadAt (H'.set A (.arr (oCells y c) .tight)) A 0 (some 5) = some (.agg (oCells y c)) ∧ Keep NoneOf h (H'.set A (.arr (oCells y c) .tight)) := fun H' k ga y c hc =>
  ⟨sto ga rfl hc, ldw (get_set_self (lt_of_get ga)) rfl, k.then (Keep.set (S := fun b => b = A) _ _ rfl) fun b hb e => by have := q.a0; omega⟩
 have zz : ([.int .i64 0, .int .i64 0, .int .i64 0, .int .i64 0, .nils] : List CV) = oCells op0 .nils := rfl
 simp only [zz]
 have zb : fillC (oCells op0 .nils) [] = some (oCells op0 .nils) := rfl
 have rp0 : ∀ H' : Heap, opC.rep H' (From h) (oCells op0 .nils) op0 := fun H' => ⟨.nils, rfl, Sl.nil⟩
 have slX : ∀ {H' : Heap} {S : Nat → Prop}, Keep S h' H' → (∀ b, cv.blk = some b → ¬ S b) → opC.rep H' (From h) (oCells X cv) X := fun {H' S} k hS => by
  refine ⟨cv, rfl, ?_⟩
  refine (q.ow.keep k hS fun _ hb => hb.elim).sl.mono fun b hb => ?_
  rcases hb with hb | hb
  ·exact hb.elim
  ·exact (q.ob b hb).1
 by_cases he : e1 = 0
 ·subst he
  have hch : finP (X, 0) = if opCheckP X = 0 then (X, 0) else (op0, opCheckP X) := by unfold finP; rw [if_pos rfl]
  rw [hch]
  simp [g2, g5, g6, l9]
  refine (refOpCheck_spec lp (slX (Keep.refl NoneOf h') fun _ _ => id)).mono ?_
  rintro r H2 ⟨rfl, k2⟩
  clear hch hP
  generalize opCheckP X = ck at *
  have q2 := q.on k2
  have l92 := ldw q2.o (show (oCells X cv).length = 5 from rfl)
  by_cases hc : ck = 0
  ·subst hc
   obtain ⟨z1, z2, z3⟩ := gX H2 q2.k q2.a X cv fsc
   have k14 : Keep (fun b => b = A) h' (H2.set A (.arr (oCells X cv) .tight)) := (k2.mono fun _ _ hn => hn.elim).trans (Keep.set _ _ rfl)
   simp [l92, ca, lE, z1, z2]
   exact ⟨slX k14 fun b hb hn => (q.ob b hb).2.1 hn, z3⟩
  ·obtain ⟨z1, z2, z3⟩ := gX H2 q2.k q2.a op0 .nils rfl
   simp [hc, zb, ca, lE, z1, z2]
   exact ⟨rp0 _, z3⟩
 ·rw [finP_err he]
  obtain ⟨z1, z2, z3⟩ := gX h' q.k q.a op0 .nils rfl
  simp [g2, g5, g6, he, zb, ca, lE, z1, z2]
  exact ⟨rp0 _, z3⟩
theorem refParseOp_spec (lp : LP p) {s : Wd} {h : Heap} (hs : s.length ≤ 100000) : WF p 244 [.str s] h fun r h' => (∃ c, r = .tup [.agg c, .int .i64 (parseP s).2] ∧ opC.rep h' (From h) c (parseP s).1) ∧ Keep NoneOf h h' := by
 refine WF_of (by rw [lp.pg]; exact S.pg244) (lp.no ⟨rfl, rfl⟩) ?_
 show W p S.b244 [(0, .str s)] h (retQ [.cell (some 5) 2, .t 3] (ParK h (parseP s)))
 refine W_front 6 _ _ (refParse_head lp hs) fun e h1 m1 => ?_
 refine W_front 2 _ _ (refParse_mid lp m1) fun e h2 m2 => ?_
 exact refParse_tail lp m2
set_option maxHeartbeats 2000000
theorem numR_inI (e : Int) (a : Wd) : inI (numR e a).1 := by
 unfold numR
 split
 ·exact numP_in a
 ·exact ⟨by simp, by simp⟩
theorem runP_in : ∀ (n : Nat) (l : List Wd) (acc : List Case) (e : Int), l.length ≤ n → (∀ c ∈ acc, inI c.v) → ∀ c ∈ (runP l acc e).1, inI c.v := by
 intro n
 induction n with
 | zero =>
   intro l acc e hl ha
   have : l = [] := List.eq_nil_of_length_eq_zero (by omega)
   subst this
   exact ha
 | succ n ih =>
   intro l acc e hl ha
   match l, hl with
   | [], _ => exact ha
   | [_], _ => exact ha
   | [w, a], hl =>
     by_cases hw : w = wSend
     ·rw [runP, if_pos hw]; exact ha
     ·rw [runP, if_neg hw]
      intro c hc
      rcases List.mem_append.1 hc with hc | hc
      ·exact ha c hc
      ·simp at hc; subst hc; exact ⟨by simp, by simp⟩
   | w :: a :: b :: r, hl =>
     by_cases hw : w = wSend
     ·subst hw
      rw [runP_send]
      refine ih _ _ _ (by simp at hl; omega) fun c hc => ?_
      rcases List.mem_append.1 hc with hc | hc
      ·exact ha c hc
      ·simp at hc; subst hc; exact numR_inI _ _
     ·rw [runP_other hw]
      refine ih _ _ _ (by simp at hl ⊢; omega) fun c hc => ?_
      rcases List.mem_append.1 hc with hc | hc
      ·exact ha c hc
      ·simp at hc; subst hc; exact ⟨by simp, by simp⟩
theorem OpOk.In {x : OpV} (o : OpOk x) (f : x.fine) : x.In := by
 have hn := o.n0
 have hm := o.n1
 have h1 := leastOf_ge x.kind
 have h2 := mostOf_le x.kind
 have hc : ∀ c ∈ x.cases, inI c.chan := fun c hc => by
  by_cases h7 : x.kind = 7
  ·have := caseBad_not (cases_valid (o.c7 h7) c hc)
   exact ⟨by omega, by omega⟩
  ·rw [o.c h7] at hc; simp at hc
 refine ⟨⟨by omega, by omega⟩, f.1, ⟨by have := o.w0; omega, by have := o.w1; omega⟩, fun c hcm => ⟨hc c hcm, f.2 c hcm⟩, ?_⟩
 by_cases h7 : x.kind = 7
 ·have := o.c7 h7
  unfold casesP at this
  split at this
  ·omega
  ·omega
 ·rw [o.c h7]; simp
theorem op0_In : op0.In := ⟨⟨by decide, by decide⟩, ⟨by decide, by decide⟩, ⟨by decide, by decide⟩, fun c hc => by simp [op0] at hc, by simp [op0]⟩
theorem parseP_In (s : Wd) : (parseP s).1.In ∧ ((parseP s).2 = 0 → (parseP s).1.fine) := by
 have fin : ∀ (q : OpV × Int), q.1.fine → (finP q).1.In ∧ ((finP q).2 = 0 → (finP q).1.fine) := fun q hf => by
  unfold finP
  split
  ·split
   ·rename_i hc
    exact ⟨(opOk hc).In hf, fun _ => hf⟩
   ·rename_i hc
    exact ⟨op0_In, fun h => absurd h hc⟩
  ·rename_i hc
   exact ⟨op0_In, fun h => absurd h hc⟩
 have err : op0.In ∧ ((2 : Int) = 0 → op0.fine) := ⟨op0_In, fun h => by cases h⟩
 have z : inI 0 := ⟨by decide, by decide⟩
 unfold parseP
 split
 ·exact err
 ·exact err
 ·unfold parseW
  split
  ·exact err
  ·refine fin _ ?_
   unfold readP
   repeat' split
   ·exact ⟨numR_inI _ _, fun c hc => by simp at hc⟩
   ·exact ⟨z, fun c hc => by simp at hc⟩
   ·exact ⟨z, fun c hc => runP_in _ _ _ _ (Nat.le_refl _) (by simp) c hc⟩
   ·exact ⟨z, fun c hc => by simp at hc⟩
   ·exact ⟨z, fun c hc => by simp at hc⟩
theorem okOp.In {x : OpV} (h : okOp x) (hl : x.cases.length ≤ 20) : x.In := ⟨h.2.1, h.2.2.1, h.2.2.2.1, h.2.2.2.2, by omega⟩
theorem okOp.fine {x : OpV} (h : okOp x) : x.fine := ⟨h.2.2.1, fun c hc => (h.2.2.2.2 c hc).2⟩
end Go.Cl
