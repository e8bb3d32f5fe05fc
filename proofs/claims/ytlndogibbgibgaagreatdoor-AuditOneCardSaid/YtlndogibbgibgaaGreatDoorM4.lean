/-
  Texts laid together: PLib ClLib ClArg ClOwn ClRoom ClRep ClArgs AFront.
-/
import Derived.Lib.SplitLaws
import Derived.Lib.ItoaLen
import Derived.Lib.SlTrimSet
import Derived.Lib.ParseIntBCases
import Derived.Lib.ParseIntBTie
import Derived.Test.YtlndogibbgibgaaGreatDoorM1
import Derived.Test.YtlndogibbgibgaaGreatDoorM3
namespace Go.Cl
open Go
def splitC (c : UInt8) : List UInt8 → List (List UInt8)
 | [] => [[]]
 | b :: l => if b == c then [] :: splitC c l else match splitC c l with
   | [] => [[b]]
   | w :: ws => (b :: w) :: ws
theorem splitC_none {c : UInt8} : ∀ {l : List UInt8}, (∀ k : Nat, l[k]? ≠ some c) → splitC c l = [l]
 | [], _ => rfl
 | b :: l, h => by
   have hb : (b == c) = false := by
    have := h 0
    simp at this
    simpa using this
   have ih := splitC_none (l := l) fun k => by simpa using h (k + 1)
   simp [splitC, hb, ih]
def digs : Nat → Nat → List UInt8
 | 0, _ => []
 | f + 1, u => if u < 10 then [UInt8.ofNat (48 + u)] else digs f (u / 10) ++ [UInt8.ofNat (48 + u % 10)]
def itoa (n : Int) : List UInt8 := if n < 0 then 45 :: digs 20 n.natAbs else digs 20 n.toNat
def p121 : List CV → Heap → Option (CV × Heap)
 | [.str s, .str p], h => if s.length ≤ 9223372036854775807 then some (.tup [.str (Lib.trimSuffix s p), .bool (Lib.hasSuffix s p)], h) else none
 | _, _ => none
def p122 : List CV → Heap → Option (CV × Heap)
 | [.str s, .str [c]], h => if s.length < 4294967281 then some (.sl h.length 0 (splitC c s).length (splitC c s).length, h ++ [.arr ((splitC c s).map .str) .tight]) else none
 | _, _ => none
def p123 : List CV → Heap → Option (CV × Heap)
 | [.str s, .str p], h => some (.str (Lib.trimPrefix s p), h)
 | _, _ => none
def p124 : List CV → Heap → Option (CV × Heap)
 | [.str s, .str c], h => if s.length ≤ 9223372036854775807 ∧ c.length < 4294967281 ∧ c.all (fun b => decide (b.toNat < 128)) = true then some (.str (Lib.trimS s c), h) else none
 | _, _ => none
def p125 : List CV → Heap → Option (CV × Heap)
 | [.str s, .int .i64 10, .int .i64 64], h => if s.length ≤ 281474976710656 then match Lib.parseIntB 64 s with
   | .ok v => some (.tup [.int .i64 v, .nili], h)
   | .range => some (.tup [.int .i64 (Lib.intSat 64 s), .ifc 2 (.ptr h.length 0)], h ++ [.arr [] .ro])
   | _ => some (.tup [.int .i64 0, .ifc 2 (.ptr h.length 0)], h ++ [.arr [] .ro])
   else none
 | _, _ => none
def p126 : List CV → Heap → Option (CV × Heap)
 | [.int .i64 n, .int .i64 10], h => if -9223372036854775808 ≤ n ∧ n ≤ 9223372036854775807 then some (.str (Cl.itoa n), h) else none
 | _, _ => none
def joinL (sep : List UInt8) : List (List UInt8) → List UInt8
 | [] => []
 | [w] => w
 | w :: v :: r => w ++ (sep ++ joinL sep (v :: r))
def strsOf : List CV → Option (List (List UInt8))
 | [] => some []
 | .str s :: r => match strsOf r with
   | some l => some (s :: l)
   | none => none
 | _ => none
def p128 : List CV → Heap → Option (CV × Heap)
 | [.nils, .str _], h => some (.str [], h)
 | [.sl b o n c, .str sep], h => match cellsAt h b o n with
   | some cs => match strsOf cs with
     | some xs => if n ≤ c ∧ n ≤ 140737488355328 ∧ (joinL sep xs).length ≤ 140737488355328 then some (.str (joinL sep xs), h) else none
     | none => none
   | none => none
 | _, _ => none
def tU8 : Nat := 4
def tBld : Nat := 5
def p136 : List CV → Heap → Option (CV × Heap)
 | [.ptr j 0, .str s], h => match h[j]? with
   | some (.bld T none) => if T = tBld ∧ s ≠ [] ∧ s.length ≤ 140737488355328 then some (.tup [.int .i64 s.length, .nili], h.set j (.bld T (some (h.length, s.length))) ++ [.buf tU8 s]) else none
   | some (.bld T (some (k, n))) => match h[k]? with
     | some (.buf U bs) => if T = tBld ∧ k ≠ j ∧ U = tU8 ∧ n = bs.length ∧ s ≠ [] ∧ bs.length + s.length ≤ 140737488355328 then some (.tup [.int .i64 s.length, .nili], (h.set k .dead).set j (.bld T (some (h.length, n + s.length))) ++ [.buf tU8 (bs ++ s)]) else none
     | _ => none
   | _ => none
 | _, _ => none
def p137 : List CV → Heap → Option (CV × Heap)
 | [.ptr j 0], h => match h[j]? with
   | some (.bld T none) => if T = tBld then some (.str [], h) else none
   | some (.bld T (some (k, n))) => match h[k]? with
     | some (.buf U bs) => if T = tBld ∧ k ≠ j ∧ U = tU8 ∧ n = bs.length ∧ bs ≠ [] then some (.str bs, h) else none
     | _ => none
   | _ => none
 | _, _ => none
def lib : Prims := fun f => match f with
 | 121 => some p121
 | 122 => some p122
 | 123 => some p123
 | 124 => some p124
 | 125 => some p125
 | 126 => some p126
 | 128 => some p128
 | 136 => some p136
 | 137 => some p137
 | _ => none
set_option linter.unusedSimpArgs false
set_option linter.unusedVariables false
def ints (k : IntKind) (l : List Int) : List CV := l.map (.int k ·)
@[simp] theorem ints_length {k : IntKind} {l : List Int} : (ints k l).length = l.length := by simp [ints]
theorem ints_get {k : IntKind} {l : List Int} {i : Nat} : (ints k l)[i]? = (l[i]?).map (.int k ·) := by simp [ints]
theorem w64 {x : Int} (h1 : -9223372036854775808 ≤ x) (h2 : x ≤ 9223372036854775807) : IntKind.i64.wrap x = x := wrap_in x h1 h2
theorem readI_len {h : Heap} {k : IntKind} {v : CV} {l : List Int} (g : Read h 1 v (ints k l)) : lenV h .sl v = some (.int .i64 (l.length : Int)) := by
 have := g.len (by decide); simpa using this
theorem readI_idx {h : Heap} {k k' : IntKind} {v : CV} {l : List Int} (g : Read h 1 v (ints k l)) {i : Nat} (hi : i < l.length) :
  ∃ b o, idxAddrV 1 v (.int k' (i : Int)) = some (.ptr b o) ∧ v.blk = some b ∧ loadAt h b o none = some (.int k l[i]) := by
 obtain ⟨b, o, c1, c2, c3⟩ := g.cell (i := i) (k := k') (by simp; omega) (by decide)
 have c4 := c3 0 (by decide)
 simp only [Nat.mul_one, Nat.add_zero, ints_get, List.getElem?_eq_getElem hi, Option.map_some] at c4
 exact ⟨b, o, c1, c2, c4⟩
def Mine (h : Heap) (esz : Nat) (v : CV) (l : List CV) : Prop :=
 (v = .nils ∧ l = []) ∨ ∃ b n st, v = .sl b 0 n n ∧ l.length = n * esz ∧ (st = .tight ∨ st = .loose esz) ∧ h[b]? = some (.arr l st)
theorem Mine.keep {S : Nat → Prop} {h h' : Heap} {esz : Nat} {v : CV} {l : List CV} (g : Mine h esz v l) (k : Keep S h h') (hS : ∀ b, v.blk = some b → ¬ S b) : Mine h' esz v l := by
 rcases g with g | ⟨b, n, st, rfl, h1, h2, h3⟩
 ·exact .inl g
 ·exact .inr ⟨b, n, st, rfl, h1, h2, k.at h3 (hS b rfl)⟩
theorem Mine.read {h : Heap} {esz : Nat} {v : CV} {l : List CV} (g : Mine h esz v l) : Read h esz v l := by
 rcases g with g | ⟨b, n, st, rfl, h1, h2, h3⟩
 ·exact .inl g
 ·exact .inr ⟨b, 0, n, n, l, st, rfl, h1, h3, by omega, by simp [← h1]⟩
theorem Read.spread {h : Heap} {esz : Nat} {v : CV} {l : List CV} (r : Read h esz v l) (he : 0 < esz) : Cl.spread h esz v = some (l.length / esz, l) := by
 rcases r with ⟨rfl, rfl⟩ | ⟨b, o, n, c, cs, st, rfl, h1, h2, h3, h4⟩
 ·simp [Cl.spread]
 ·simp only [Cl.spread, cellsAt, h2, h3, if_true, ← h4]
  rw [h1, Nat.mul_div_cancel _ he]
theorem OV_more {h : Heap} {esz : Nat} {v : CV} {l ys : List CV} {k n : Nat} {K : CV × Heap → Prop} (g : Mine h esz v l) (hn : l.length = n * esz) (hy : ys.length = k * esz) (hs : ys.all CV.scalar = true) (hbig : n ≤ big) (hkb : k ≤ big) (hesz : 0 < esz)
  (kk : ∀ v' h', Mine h' esz v' (l ++ ys) → Keep (fun b => v.blk = some b) h h' → (∀ b, v'.blk = some b → v.blk = some b ∨ h.length ≤ b) → K (v', h')) :
  OV (appendTo h esz v k ys) K := by
 have hkb' : ¬ (k > big ∨ ys.all CV.scalar = false) := by rw [hs]; simp; exact hkb
 by_cases hk : k = 0
 ·subst hk
  have hys : ys = [] := List.length_eq_zero_iff.1 (by simpa using hy)
  subst hys
  rw [List.append_nil] at kk
  rcases g with ⟨rfl, rfl⟩ | ⟨b, m, st, rfl, h1, h2, h3⟩
  ·simp only [appendTo]
   rw [if_neg hkb']
   simp
   exact kk _ _ (.inl ⟨rfl, rfl⟩) (Keep.refl _ _) (by simp [CV.blk])
  ·have hm : m = n := Nat.eq_of_mul_eq_mul_right hesz (h1.symm.trans hn)
   subst hm
   simp only [appendTo]
   rw [if_neg hkb', if_neg (by omega)]
   simp
   exact kk _ _ (.inr ⟨b, m, st, rfl, h1, h2, h3⟩) (Keep.refl _ _) (fun b' hb => .inl hb)
 ·rcases g with ⟨rfl, rfl⟩ | ⟨b, m, st, rfl, h1, h2, h3⟩
  ·simp only [appendTo]
   rw [if_neg hkb', if_neg hk]
   simp
   refine kk _ _ (.inr ⟨h.length, k, .loose esz, rfl, by simpa using hy, .inr rfl, by simp⟩) (Keep.app _ _ _) (by simp [CV.blk])
  ·have hm : m = n := Nat.eq_of_mul_eq_mul_right hesz (h1.symm.trans hn)
   subst hm
   have hst : st ≠ .ro := by rcases h2 with rfl | rfl <;> simp
   have hkl : (kill h b).length = h.length := by unfold kill; split <;> simp
   have hkeep : Keep (fun c => (CV.sl b 0 m m).blk = some c) h (kill h b ++ [.arr (l ++ ys) (.loose esz)]) := by
    refine ⟨by simp [hkl], fun c hc hne => ?_⟩
    have hcb : b ≠ c := fun e => hne (by simp [CV.blk, e])
    rw [List.getElem?_append_left (by rw [hkl]; exact hc)]
    unfold kill
    split
    ·exact List.getElem?_set_ne hcb
    ·rfl
   simp only [appendTo]
   rw [if_neg hkb', if_neg (by omega), if_neg (by omega), if_neg (by omega)]
   simp only [h3]
   rw [if_pos ⟨hst, h2, by omega, by omega⟩]
   simp only [OV_some, Nat.zero_add, List.drop_zero]
   rw [show l.take (m * esz) = l by rw [← h1, List.take_length]]
   refine kk _ _ (.inr ⟨h.length, m + k, .loose esz, rfl, by rw [List.length_append, h1, hy, Nat.add_mul], .inr rfl, ?_⟩) hkeep (by simp [CV.blk])
   rw [← hkl]; exact get_new
variable {p : PP}
theorem WO_re_n {all l : List SOper} {d : Option Nat} {op : SOp} {re : List Nat} {e : Env} {h : Heap} {K : Env → Heap → Prop}
  (w : W1 p op e h fun v h' => (∀ c, recheckB c all (e.put d v) h' re = true) ∧ WO p all l (e.put d v) h' K) : WO p all (⟨d, op, none, re⟩ :: l) e h K := by
 obtain ⟨n, v, h1, ho, hr, m, e', h', a, b⟩ := w
 refine ⟨max n m, e', h', ?_, b⟩
 simp only [evOps, evOper, wanted]
 rw [evOp_le (p.le (Nat.le_max_left n m)) ho]
 simp only [hr, if_true]
 exact evOps_le (p.le (Nat.le_max_right n m)) a
def Roomy (h : Heap) (esz : Nat) (v : CV) (l : List CV) : Prop :=
 (v = .nils ∧ l = []) ∨ ∃ b o n c cs st, v = .sl b o n c ∧ l.length = n * esz ∧ n ≤ c ∧ (st = .tight ∨ st = .loose esz) ∧ h[b]? = some (.arr cs st) ∧ o + c * esz ≤ cs.length ∧ l = (cs.drop o).take (n * esz)
theorem Roomy.read {h : Heap} {esz : Nat} {v : CV} {l : List CV} (g : Roomy h esz v l) : Read h esz v l := by
 rcases g with g | ⟨b, o, n, c, cs, st, rfl, h1, h2, h3, h4, h5, h6⟩
 ·exact .inl g
 ·have : n * esz ≤ c * esz := Nat.mul_le_mul_right _ h2
  exact .inr ⟨b, o, n, c, cs, st, rfl, h1, h4, by omega, h6⟩
theorem Roomy.keep {S : Nat → Prop} {h h' : Heap} {esz : Nat} {v : CV} {l : List CV} (g : Roomy h esz v l) (k : Keep S h h') (hS : ∀ b, v.blk = some b → ¬ S b) : Roomy h' esz v l := by
 rcases g with g | ⟨b, o, n, c, cs, st, rfl, h1, h2, h3, h4, h5⟩
 ·exact .inl g
 ·exact .inr ⟨b, o, n, c, cs, st, rfl, h1, h2, h3, k.at h4 (hS b rfl), h5⟩
theorem Roomy.cut {h : Heap} {esz : Nat} {v : CV} {l : List CV} (g : Roomy h esz v l) (he : 0 < esz) {k : IntKind} {m : Nat} (hm : m * esz ≤ l.length) :
  ∃ v', slSl h esz v none (some (.int k (m : Int))) = some (v', h) ∧ Roomy h esz v' (l.take (m * esz)) ∧ v'.blk = v.blk := by
 rcases g with ⟨rfl, rfl⟩ | ⟨b, o, n, c, cs, st, rfl, h1, h2, h3, h4, h5, h6⟩
 ·have h0 : m * esz = 0 := by simpa using hm
  have : m = 0 := by
   rcases Nat.mul_eq_zero.1 h0 with h | h
   ·exact h
   ·omega
  subst this
  exact ⟨.nils, by simp [slSl, bound], .inl ⟨rfl, by simp⟩, rfl⟩
 ·have hmn : m ≤ n := by
   rw [h1] at hm
   exact Nat.le_of_mul_le_mul_right hm he
  refine ⟨.sl b o m c, ?_, .inr ⟨b, o, m, c, cs, st, rfl, ?_, by omega, h3, h4, h5, ?_⟩, rfl⟩
  ·simp only [slSl, bound]
   rw [if_neg (by omega), if_pos ⟨by omega, by omega⟩]
   simp
  ·rw [List.length_take]; omega
  ·rw [h6, List.take_take]; congr 1
   have := Nat.mul_le_mul_right esz hmn; omega
theorem OV_room {h : Heap} {esz : Nat} {v : CV} {l ys : List CV} {k n : Nat} {K : CV × Heap → Prop} (g : Roomy h esz v l) (hn : l.length = n * esz) (hy : ys.length = k * esz) (hs : ys.all CV.scalar = true) (hbig : n ≤ big) (hkb : k ≤ big) (hesz : 0 < esz)
  (kk : ∀ v' h', Roomy h' esz v' (l ++ ys) → Keep (fun b => v.blk = some b) h h' → (∀ b, v'.blk = some b → v.blk = some b ∨ h.length ≤ b) → K (v', h')) :
  OV (appendTo h esz v k ys) K := by
 have hkb' : ¬ (k > big ∨ ys.all CV.scalar = false) := by rw [hs]; simp; exact hkb
 by_cases hk : k = 0
 ·subst hk
  have hys : ys = [] := List.length_eq_zero_iff.1 (by simpa using hy)
  subst hys
  rw [List.append_nil] at kk
  rcases g with ⟨rfl, rfl⟩ | ⟨b, o, m, c, cs, st, rfl, h1, h2, h3⟩
  ·simp only [appendTo]
   rw [if_neg hkb']
   simp
   exact kk _ _ (.inl ⟨rfl, rfl⟩) (Keep.refl _ _) (by simp [CV.blk])
  ·have hm : m = n := Nat.eq_of_mul_eq_mul_right hesz (h1.symm.trans hn)
   subst hm
   simp only [appendTo]
   rw [if_neg hkb', if_neg (by omega), if_pos ⟨trivial, h2⟩]
   simp
   exact kk _ _ (.inr ⟨b, o, m, c, cs, st, rfl, h1, h2, h3⟩) (Keep.refl _ _) (fun b' hb => .inl hb)
 ·rcases g with ⟨rfl, rfl⟩ | ⟨b, o, m, c, cs, st, rfl, h1, h2, h3, h4, h5, h6⟩
  ·simp only [appendTo]
   rw [if_neg hkb', if_neg hk]
   simp
   refine kk _ _ (.inr ⟨h.length, 0, k, k, ys, .loose esz, rfl, by simpa using hy, Nat.le_refl _, .inr rfl, by simp, by omega, by simp [← hy]⟩) (Keep.app _ _ _) (by simp [CV.blk])
  ·have hm : m = n := Nat.eq_of_mul_eq_mul_right hesz (h1.symm.trans hn)
   subst hm
   have hst : st ≠ .ro := by rcases h3 with rfl | rfl <;> simp
   have hle := Nat.mul_le_mul_right esz h2
   simp only [appendTo]
   rw [if_neg hkb', if_neg (by omega), if_neg (by omega)]
   by_cases hroom : m + k ≤ c
   ·have hle2 := Nat.mul_le_mul_right esz hroom
    rw [Nat.add_mul] at hle2
    rw [if_pos hroom]
    simp only [storeAt, h4]
    rw [if_pos ⟨hst, by omega, hs⟩]
    simp only [OV_some]
    refine kk _ _ (.inr ⟨b, o, m + k, c, _, st, rfl, by rw [List.length_append, h1, hy, Nat.add_mul], hroom, h3, get_set_self (lt_of_get h4), ?_, ?_⟩) (Keep.set _ _ rfl) (fun b' hb => .inl hb)
    ·simp only [splice, List.length_append, List.length_take, List.length_drop]; omega
    ·simp only [splice]
     rw [List.append_assoc, List.drop_append_of_le_length (by rw [List.length_take]; omega), List.drop_take, show o + m * esz - o = m * esz by omega, ← h6, ← List.append_assoc]
     rw [List.take_append_of_le_length (by rw [List.length_append, h1, hy, Nat.add_mul]; omega)]
     rw [List.take_of_length_le (by rw [List.length_append, h1, hy, Nat.add_mul]; omega)]
   ·have hkl : (kill h b).length = h.length := by unfold kill; split <;> simp
    have hkeep : Keep (fun x => (CV.sl b o m c).blk = some x) h (kill h b ++ [.arr (l ++ ys) (.loose esz)]) := by
     refine ⟨by simp [hkl], fun x hx hne => ?_⟩
     have hcb : b ≠ x := fun e => hne (by simp [CV.blk, e])
     rw [List.getElem?_append_left (by rw [hkl]; exact hx)]
     unfold kill
     split
     ·exact List.getElem?_set_ne hcb
     ·rfl
    rw [if_neg hroom]
    simp only [h4]
    rw [if_pos ⟨hst, h3, by omega, by omega⟩]
    simp only [OV_some, ← h6]
    refine kk _ _ (.inr ⟨h.length, 0, m + k, m + k, l ++ ys, .loose esz, rfl, by rw [List.length_append, h1, hy, Nat.add_mul], Nat.le_refl _, .inr rfl, ?_, ?_, ?_⟩) hkeep (by simp [CV.blk])
    ·rw [← hkl]; exact get_new
    ·rw [List.length_append, h1, hy, Nat.add_mul]; omega
    ·rw [List.drop_zero, List.take_of_length_le (by rw [List.length_append, h1, hy, Nat.add_mul]; omega)]
@[simp] theorem cells_int {k : IntKind} {n : Int} : CV.cells (.int k n) = [.int k n] := id rfl
@[simp] theorem scalar_int {k : IntKind} {n : Int} : CV.scalar (.int k n) = true := id rfl
@[simp] theorem fits_int {k : IntKind} {n : Int} : fits none (.int k n) = true := id rfl
@[simp] theorem cells_bool {b : Bool} : CV.cells (.bool b) = [.bool b] := id rfl
@[simp] theorem scalar_bool {b : Bool} : CV.scalar (.bool b) = true := id rfl
@[simp] theorem fits_bool {b : Bool} : fits none (.bool b) = true := id rfl
@[simp] theorem cells_str {s : List UInt8} : CV.cells (.str s) = [.str s] := id rfl
@[simp] theorem scalar_str {s : List UInt8} : CV.scalar (.str s) = true := id rfl
@[simp] theorem fits_str {s : List UInt8} : fits none (.str s) = true := id rfl
@[simp] theorem cells_ptr {b o : Nat} : CV.cells (.ptr b o) = [.ptr b o] := id rfl
@[simp] theorem scalar_ptr {b o : Nat} : CV.scalar (.ptr b o) = true := id rfl
@[simp] theorem fits_ptr {b o : Nat} : fits none (.ptr b o) = true := id rfl
@[simp] theorem cells_nilp  : CV.cells (.nilp) = [.nilp] := id rfl
@[simp] theorem scalar_nilp  : CV.scalar (.nilp) = true := id rfl
@[simp] theorem fits_nilp  : fits none (.nilp) = true := id rfl
@[simp] theorem cells_sl {b o n c : Nat} : CV.cells (.sl b o n c) = [.sl b o n c] := id rfl
@[simp] theorem scalar_sl {b o n c : Nat} : CV.scalar (.sl b o n c) = true := id rfl
@[simp] theorem fits_sl {b o n c : Nat} : fits none (.sl b o n c) = true := id rfl
@[simp] theorem cells_nils  : CV.cells (.nils) = [.nils] := id rfl
@[simp] theorem scalar_nils  : CV.scalar (.nils) = true := id rfl
@[simp] theorem fits_nils  : fits none (.nils) = true := id rfl
@[simp] theorem cells_mp {b : Nat} : CV.cells (.mp b) = [.mp b] := id rfl
@[simp] theorem scalar_mp {b : Nat} : CV.scalar (.mp b) = true := id rfl
@[simp] theorem fits_mp {b : Nat} : fits none (.mp b) = true := id rfl
@[simp] theorem cells_nilm  : CV.cells (.nilm) = [.nilm] := id rfl
@[simp] theorem scalar_nilm  : CV.scalar (.nilm) = true := id rfl
@[simp] theorem fits_nilm  : fits none (.nilm) = true := id rfl
@[simp] theorem cells_fn {f : Nat} {l : List CV} : CV.cells (.fn f l) = [.fn f l] := id rfl
@[simp] theorem scalar_fn {f : Nat} {l : List CV} : CV.scalar (.fn f l) = true := id rfl
@[simp] theorem fits_fn {f : Nat} {l : List CV} : fits none (.fn f l) = true := id rfl
@[simp] theorem cells_nilf  : CV.cells (.nilf) = [.nilf] := id rfl
@[simp] theorem scalar_nilf  : CV.scalar (.nilf) = true := id rfl
@[simp] theorem fits_nilf  : fits none (.nilf) = true := id rfl
@[simp] theorem cells_ifc {t : Nat} {v : CV} : CV.cells (.ifc t v) = [.ifc t v] := id rfl
@[simp] theorem scalar_ifc {t : Nat} {v : CV} : CV.scalar (.ifc t v) = true := id rfl
@[simp] theorem fits_ifc {t : Nat} {v : CV} : fits none (.ifc t v) = true := id rfl
@[simp] theorem cells_nili  : CV.cells (.nili) = [.nili] := id rfl
@[simp] theorem scalar_nili  : CV.scalar (.nili) = true := id rfl
@[simp] theorem fits_nili  : fits none (.nili) = true := id rfl
@[simp] theorem cells_agg {l : List CV} : CV.cells (.agg l) = l := id rfl
@[simp] theorem fits_agg {n : Nat} {l : List CV} : fits (some n) (.agg l) = (l.length == n) := id rfl
@[simp] theorem eqv_b {a b : Bool} : eqv .b (.bool a) (.bool b) = some (decide (a = b)) := by cases a <;> cases b <;> rfl
@[simp] theorem result2 {a b : CV} : result [a, b] = .tup [a, b] := id rfl
@[simp] theorem eqv_in : eqv .i .nili .nili = some true := id rfl
@[simp] theorem eqv_i0 {t : Nat} {v : CV} : eqv .i (.ifc t v) .nili = some false := id rfl
@[simp] theorem eqv_i1 {t : Nat} {v : CV} : eqv .i .nili (.ifc t v) = some false := id rfl
@[simp] theorem eqv_sn : eqv .s .nils .nils = some true := id rfl
@[simp] theorem eqv_s0 {b o n c : Nat} : eqv .s (.sl b o n c) .nils = some false := id rfl
@[simp] theorem eqv_mn : eqv .m .nilm .nilm = some true := id rfl
@[simp] theorem eqv_m0 {b : Nat} : eqv .m (.mp b) .nilm = some false := id rfl
@[simp] theorem eqv_pn : eqv .p .nilp .nilp = some true := id rfl
@[simp] theorem eqv_p0 {b o : Nat} : eqv .p (.ptr b o) .nilp = some false := id rfl
@[simp] theorem eqv_p1 {b o : Nat} : eqv .p .nilp (.ptr b o) = some false := id rfl
def From (h : Heap) : Nat → Prop := fun b => h.length ≤ b
structure Cod (α : Type) where
 n : Nat
 rep : Heap → (Nat → Prop) → List CV → α → Prop
 len : ∀ {h P c x}, rep h P c x → c.length = n
 flat : ∀ {h P c x}, rep h P c x → c.all CV.scalar = true
 mono : ∀ {h P Q c x}, rep h P c x → (∀ b, P b → Q b) → rep h Q c x
 keep : ∀ {h h' P S c x}, rep h P c x → Keep S h h' → (∀ b, P b → ¬ S b) → rep h' P c x
 lt : ∀ {h P c x}, rep h P c x → rep h (fun b => P b ∧ b < h.length) c x
def Cod.int (k : IntKind) : Cod Int where
 n := 1
 rep _ _ c x := c = [.int k x]
 len e := by subst e; rfl
 flat e := by subst e; rfl
 mono e _ := e
 keep e _ _ := e
 lt e := e
def Cod.bool : Cod Bool where
 n := 1
 rep _ _ c x := c = [.bool x]
 len e := by subst e; rfl
 flat e := by subst e; rfl
 mono e _ := e
 keep e _ _ := e
 lt e := e
def Cod.str : Cod (List UInt8) where
 n := 1
 rep _ _ c x := c = [.str x]
 len e := by subst e; rfl
 flat e := by subst e; rfl
 mono e _ := e
 keep e _ _ := e
 lt e := e
def Rows {α : Type} (e : Cod α) (h : Heap) (P : Nat → Prop) (cells : List CV) (l : List α) : Prop :=
 cells.length = l.length * e.n ∧ ∀ i x, l[i]? = some x → e.rep h P ((cells.drop (i * e.n)).take e.n) x
theorem Rows.mono {α : Type} {e : Cod α} {h : Heap} {P Q : Nat → Prop} {cells : List CV} {l : List α} (r : Rows e h P cells l) (k : ∀ b, P b → Q b) : Rows e h Q cells l :=
 ⟨r.1, fun i x hx => e.mono (r.2 i x hx) k⟩
theorem Rows.keep {α : Type} {e : Cod α} {h h' : Heap} {P S : Nat → Prop} {cells : List CV} {l : List α} (r : Rows e h P cells l) (k : Keep S h h') (hS : ∀ b, P b → ¬ S b) : Rows e h' P cells l :=
 ⟨r.1, fun i x hx => e.keep (r.2 i x hx) k hS⟩
theorem Rows.lt {α : Type} {e : Cod α} {h : Heap} {P : Nat → Prop} {cells : List CV} {l : List α} (r : Rows e h P cells l) : Rows e h (fun b => P b ∧ b < h.length) cells l :=
 ⟨r.1, fun i x hx => e.lt (r.2 i x hx)⟩
theorem Rows.nil {α : Type} {e : Cod α} {h : Heap} {P : Nat → Prop} : Rows e h P [] [] := ⟨by simp, by simp⟩
theorem Rows.one {α : Type} {e : Cod α} {h : Heap} {P : Nat → Prop} {c : List CV} {x : α} (r : e.rep h P c x) : Rows e h P c [x] := by
 refine ⟨by simp [e.len r], fun i y hy => ?_⟩
 cases i with
 | zero => simp at hy; subst hy; simp; rw [← e.len r, List.take_length]; exact r
 | succ i => simp at hy
theorem Rows.append {α : Type} {e : Cod α} {h : Heap} {P : Nat → Prop} {c d : List CV} {l m : List α} (r : Rows e h P c l) (s : Rows e h P d m) : Rows e h P (c ++ d) (l ++ m) := by
 refine ⟨by rw [List.length_append, List.length_append, r.1, s.1, Nat.add_mul], fun i x hx => ?_⟩
 by_cases hi : i < l.length
 ·rw [List.getElem?_append_left hi] at hx
  have := r.2 i x hx
  have hm : (i + 1) * e.n ≤ l.length * e.n := Nat.mul_le_mul_right _ hi
  rw [Nat.succ_mul] at hm
  rw [List.drop_append_of_le_length (by rw [r.1]; omega), List.take_append_of_le_length (by rw [List.length_drop, r.1]; omega)]
  exact this
 ·rw [List.getElem?_append_right (by omega)] at hx
  have := s.2 _ x hx
  have hm : l.length * e.n ≤ i * e.n := Nat.mul_le_mul_right _ (by omega)
  rw [List.drop_append, show c.drop (i * e.n) = [] from List.drop_eq_nil_iff.2 (by rw [r.1]; exact hm), List.nil_append, r.1, ← Nat.sub_mul]
  exact this
theorem Rows.take {α : Type} {e : Cod α} {h : Heap} {P : Nat → Prop} {c : List CV} {l : List α} (r : Rows e h P c l) {m : Nat} (hm : m ≤ l.length) : Rows e h P (c.take (m * e.n)) (l.take m) := by
 have hmm : m * e.n ≤ l.length * e.n := Nat.mul_le_mul_right _ hm
 refine ⟨by rw [List.length_take, List.length_take, r.1, Nat.min_eq_left hmm, Nat.min_eq_left hm], fun i x hx => ?_⟩
 by_cases hi : i < m
 ·rw [List.getElem?_take_of_lt hi] at hx
  have := r.2 i x hx
  have hm2 : (i + 1) * e.n ≤ m * e.n := Nat.mul_le_mul_right _ hi
  rw [Nat.succ_mul] at hm2
  rw [List.drop_take, List.take_take, Nat.min_eq_left (by omega)]
  exact this
 ·rw [List.getElem?_eq_none (by simp; omega)] at hx; simp at hx
theorem Rows.drop {α : Type} {e : Cod α} {h : Heap} {P : Nat → Prop} {c : List CV} {l : List α} (r : Rows e h P c l) (m : Nat) : Rows e h P (c.drop (m * e.n)) (l.drop m) := by
 refine ⟨by rw [List.length_drop, List.length_drop, r.1, Nat.sub_mul], fun i x hx => ?_⟩
 rw [List.getElem?_drop] at hx
 have := r.2 _ x hx
 rw [List.drop_drop, ← Nat.add_mul]
 exact this
def CV.ok : CV → Prop
 | .sl _ _ n c => n ≤ c
 | _ => True
def Sl {α : Type} (e : Cod α) (h : Heap) (P : Nat → Prop) (v : CV) (l : List α) : Prop :=
 ∃ cells, Read h e.n v cells ∧ (v.ok ∧ ∀ b, v.blk = some b → P b) ∧ Rows e h P cells l
theorem Read.scalar {h : Heap} {n : Nat} {v : CV} {l : List CV} (r : Read h n v l) : v.scalar = true := by
 rcases r with ⟨rfl, _⟩ | ⟨_, _, _, _, _, _, rfl, _⟩ <;> rfl
theorem Read.lt {h : Heap} {n : Nat} {v : CV} {l : List CV} (r : Read h n v l) {b : Nat} (hb : v.blk = some b) : b < h.length := r.blk_lt b hb
section
variable {α : Type} {e : Cod α} {h h' : Heap} {P Q S : Nat → Prop} {v : CV} {l : List α}
theorem Sl.mono (s : Sl e h P v l) (k : ∀ b, P b → Q b) : Sl e h Q v l := let ⟨c, r, p, rs⟩ := s; ⟨c, r, ⟨p.1, fun b hb => k b (p.2 b hb)⟩, rs.mono k⟩
theorem Sl.keep (s : Sl e h P v l) (k : Keep S h h') (hS : ∀ b, P b → ¬ S b) : Sl e h' P v l := let ⟨c, r, p, rs⟩ := s; ⟨c, r.keep k fun b hb => hS b (p.2 b hb), p, rs.keep k hS⟩
theorem Sl.lt (s : Sl e h P v l) : Sl e h (fun b => P b ∧ b < h.length) v l := let ⟨c, r, p, rs⟩ := s; ⟨c, r, ⟨p.1, fun b hb => ⟨p.2 b hb, r.blk_lt b hb⟩⟩, rs.lt⟩
theorem Sl.on (s : Sl e h P v l) (k : Keep NoneOf h h') : Sl e h' P v l := s.keep k fun _ _ => id
theorem Sl.nil : Sl e h P .nils [] := ⟨[], .inl ⟨rfl, rfl⟩, ⟨trivial, by simp [CV.blk]⟩, Rows.nil⟩
theorem Sl.len (s : Sl e h P v l) (he : 0 < e.n) : lenV h .sl v = some (.int .i64 (l.length : Int)) := by
 obtain ⟨c, r, _, rs⟩ := s
 have := r.len he
 rwa [rs.1, Nat.mul_div_cancel _ he] at this
theorem Sl.row (s : Sl e h P v l) (he : 0 < e.n) {i : Nat} (hi : i < l.length) {k : IntKind} :
  ∃ b o row, idxAddrV e.n v (.int k (i : Int)) = some (.ptr b o) ∧ loadAt h b o (some e.n) = some (.agg row) ∧ (∀ j, j < e.n → loadAt h b (o + j) none = row[j]?) ∧ e.rep h P row l[i] := by
 obtain ⟨c, r, p, rs⟩ := s
 have hm : (i + 1) * e.n ≤ c.length := by rw [rs.1]; exact Nat.mul_le_mul_right _ hi
 obtain ⟨b, o, h1, h2, h3⟩ := r.cell (k := k) hm he
 obtain ⟨b', o', h1', h2', h3'⟩ := r.row (k := k) hm he
 rw [h1] at h1'
 simp at h1'
 obtain ⟨rfl, rfl⟩ := h1'
 refine ⟨b, o, _, h1, h3', fun j hj => ?_, rs.2 i _ (List.getElem?_eq_getElem hi)⟩
 rw [h3 j hj, List.getElem?_take_of_lt hj, List.getElem?_drop]
theorem load_on {b o : Nat} {n : Option Nat} {v : CV} (hl : loadAt h b o n = some v) (k : Keep NoneOf h h') (q : Option Nat) (o' : Nat) : loadAt h' b o' q = loadAt h b o' q := by
 have hb : b < h.length := by
  cases hx : h[b]? with
  | none => cases n <;> simp [loadAt, hx] at hl
  | some x => exact lt_of_get hx
 have := k.get b hb id
 cases q <;> simp only [loadAt, this]
theorem Sl.rowK (s : Sl e h P v l) (he : 0 < e.n) {i : Nat} (hi : i < l.length) {k : IntKind} :
  ∃ b o row, idxAddrV e.n v (.int k (i : Int)) = some (.ptr b o) ∧ (∀ h', Keep NoneOf h h' → loadAt h' b o (some e.n) = some (.agg row) ∧ ∀ j, j < e.n → loadAt h' b (o + j) none = row[j]?) ∧ e.rep h P row l[i] := by
 obtain ⟨b, o, row, h1, h2, h3, h4⟩ := s.row (k := k) he hi
 exact ⟨b, o, row, h1, fun h' kk => ⟨by rw [load_on h2 kk]; exact h2, fun j hj => by rw [load_on h2 kk]; exact h3 j hj⟩, h4⟩
theorem Sl.spread (s : Sl e h P v l) (he : 0 < e.n) : ∃ cells, Cl.spread h e.n v = some (l.length, cells) ∧ Rows e h P cells l := by
 obtain ⟨c, r, p, rs⟩ := s
 refine ⟨c, ?_, rs⟩
 rw [r.spread he, rs.1, Nat.mul_div_cancel _ he]
end
theorem Rows.flat {α : Type} {e : Cod α} {h : Heap} {P : Nat → Prop} : ∀ {l : List α} {cells : List CV}, Rows e h P cells l → cells.all CV.scalar = true
 | [], cells, r => by have := r.1; simp at this; subst this; rfl
 | x :: l, cells, r => by
   have h0 := r.2 0 x rfl
   have h1 := Rows.drop r 1
   simp only [Nat.zero_mul, List.drop_zero, Nat.one_mul, List.drop_one, List.tail_cons] at h0 h1
   have a := e.flat h0
   have b := Rows.flat h1
   rw [← List.take_append_drop e.n cells, List.all_append, a, b]; rfl
def Cod.sl {α : Type} (e : Cod α) : Cod (List α) where
 n := 1
 rep h P c l := ∃ v, c = [v] ∧ Sl e h P v l
 len := by rintro h P c x ⟨v, rfl, _⟩; rfl
 flat := by
  rintro h P c x ⟨v, rfl, cells, r, _⟩
  simp [r.scalar]
 mono := by rintro h P Q c x ⟨v, rfl, s⟩ k; exact ⟨v, rfl, s.mono k⟩
 keep := by rintro h h' P S c x ⟨v, rfl, s⟩ k hS; exact ⟨v, rfl, s.keep k hS⟩
 lt := by rintro h P c x ⟨v, rfl, s⟩; exact ⟨v, rfl, s.lt⟩
theorem Mine.ok {h : Heap} {esz : Nat} {v : CV} {l : List CV} (g : Mine h esz v l) : v.ok := by
 rcases g with ⟨rfl, _⟩ | ⟨b, n, st, rfl, _⟩
 ·trivial
 ·exact Nat.le_refl n
theorem Sl.cut {α : Type} {e : Cod α} {h : Heap} {P : Nat → Prop} {v : CV} {l : List α} (s : Sl e h P v l) (he : 0 < e.n) {k : IntKind} {m : Nat} (hm : m ≤ l.length) :
  ∃ v', slSl h e.n v none (some (.int k (m : Int))) = some (v', h) ∧ Sl e h P v' (l.take m) := by
 obtain ⟨c, r, ⟨ok, p⟩, rs⟩ := s
 have hmm : m * e.n ≤ l.length * e.n := Nat.mul_le_mul_right _ hm
 rcases r with ⟨rfl, rfl⟩ | ⟨b, o, n, cap, cs, st, rfl, h1, h2, h3, h4⟩
 ·have : l.length * e.n = 0 := by rw [← rs.1]; rfl
  have hl0 : l.length = 0 := by
   rcases Nat.mul_eq_zero.1 this with h | h
   ·exact h
   ·omega
  have : m = 0 := by omega
  subst this
  have : l = [] := List.length_eq_zero_iff.1 hl0
  subst this
  exact ⟨.nils, by simp [slSl, bound], Sl.nil⟩
 ·have hln : l.length = n := Nat.eq_of_mul_eq_mul_right he (rs.1.symm.trans h1)
  have ok' : n ≤ cap := ok
  refine ⟨.sl b o m cap, ?_, c.take (m * e.n), .inr ⟨b, o, m, cap, cs, st, rfl, ?_, h2, ?_, ?_⟩, ⟨show m ≤ cap by omega, fun b' hb' => p b' hb'⟩, rs.take hm⟩
  ·simp only [slSl, bound]
   rw [if_neg (by omega), if_pos ⟨by omega, by omega⟩]
   simp
  ·rw [List.length_take, rs.1]; omega
  ·have : m * e.n ≤ n * e.n := by rw [← hln]; exact hmm
   omega
  ·rw [h4, List.take_take]; congr 1
   have : m * e.n ≤ n * e.n := by rw [← hln]; exact hmm
   omega
def OwnL {α : Type} (e : Cod α) (h : Heap) (P : Nat → Prop) (v : CV) (l : List α) : Prop :=
 ∃ cells, Mine h e.n v cells ∧ Rows e h P cells l ∧ ∀ b, v.blk = some b → ¬ P b
theorem OwnL.nil {α : Type} {e : Cod α} {h : Heap} {P : Nat → Prop} : OwnL e h P .nils [] := ⟨[], .inl ⟨rfl, rfl⟩, Rows.nil, by simp [CV.blk]⟩
section
variable {α : Type} {e : Cod α} {h h' : Heap} {P Q S : Nat → Prop} {v : CV} {l : List α}
theorem OwnL.sl (s : OwnL e h P v l) : Sl e h (fun b => P b ∨ v.blk = some b) v l := let ⟨c, m, r, p⟩ := s; ⟨c, m.read, ⟨m.ok, fun b hb => .inr hb⟩, r.mono fun b hb => .inl hb⟩
theorem OwnL.keep (s : OwnL e h P v l) (k : Keep S h h') (hv : ∀ b, v.blk = some b → ¬ S b) (hS : ∀ b, P b → ¬ S b) : OwnL e h' P v l := let ⟨c, m, r, p⟩ := s; ⟨c, m.keep k hv, r.keep k hS, p⟩
theorem OwnL.on (s : OwnL e h P v l) (k : Keep NoneOf h h') : OwnL e h' P v l := s.keep k (fun _ _ => id) fun _ _ => id
theorem OwnL.mono (s : OwnL e h P v l) (k : ∀ b, P b → Q b) (hv : ∀ b, v.blk = some b → ¬ Q b) : OwnL e h Q v l := let ⟨c, m, r, p⟩ := s; ⟨c, m, r.mono k, hv⟩
theorem OwnL.blk (s : OwnL e h P v l) : ∀ b, v.blk = some b → b < h.length := let ⟨c, m, r, p⟩ := s; m.read.blk_lt
theorem OV_pushes {ys : List CV} {m : List α} {k : Nat} {K : CV × Heap → Prop} (s : OwnL e h P v l) (r : Rows e h P ys m) (hk : k = m.length) (hP : ∀ b, P b → b < h.length) (hl : l.length ≤ big) (hm : m.length ≤ big) (he : 0 < e.n)
  (kk : ∀ v' h', OwnL e h' P v' (l ++ m) → Keep (fun b => v.blk = some b) h h' → (∀ b, v'.blk = some b → v.blk = some b ∨ h.length ≤ b) → K (v', h')) :
  OV (appendTo h e.n v k ys) K := by
 obtain ⟨c, mi, rs, p⟩ := s
 subst hk
 refine OV_more mi rs.1 r.1 r.flat hl hm he ?_
 intro v' h' mi' ke hb
 refine kk v' h' ⟨c ++ ys, mi', (rs.append r).keep ke fun b hP' hv => p b hv hP', fun b hv hP' => ?_⟩ ke hb
 rcases hb b hv with q | q
 ·exact p b q hP'
 ·have := hP b hP'; omega
theorem OV_push {ys : List CV} {x : α} {K : CV × Heap → Prop} (s : OwnL e h P v l) (r : e.rep h P ys x) (hP : ∀ b, P b → b < h.length) (hl : l.length ≤ big) (he : 0 < e.n)
  (kk : ∀ v' h', OwnL e h' P v' (l ++ [x]) → Keep (fun b => v.blk = some b) h h' → (∀ b, v'.blk = some b → v.blk = some b ∨ h.length ≤ b) → K (v', h')) :
  OV (appendTo h e.n v 1 ys) K := OV_pushes s (Rows.one r) rfl hP hl (by simp [big]) he kk
end
def Nest (B : Nat) (h : Heap) (v : CV) : Nat → Prop := fun b => B ≤ b ∧ b < h.length ∧ v.blk ≠ some b
def OwnN {α : Type} (e : Cod α) (B : Nat) (h : Heap) (v : CV) (l : List α) : Prop := OwnL e h (Nest B h v) v l
section
variable {α : Type} {e : Cod α} {h h' : Heap} {B : Nat} {P S : Nat → Prop} {v : CV} {l : List α}
theorem OwnN.nil : OwnN e B h .nils [] := OwnL.nil
theorem OwnN.keep (s : OwnN e B h v l) (k : Keep S h h') (hv : ∀ b, v.blk = some b → ¬ S b) (hS : ∀ b, B ≤ b → b < h.length → v.blk ≠ some b → ¬ S b) : OwnN e B h' v l :=
 (OwnL.keep s k hv fun b hb => hS b hb.1 hb.2.1 hb.2.2).mono (fun b hb => ⟨hb.1, Nat.lt_of_lt_of_le hb.2.1 k.len, hb.2.2⟩) fun b hb hn => hn.2.2 hb
theorem OwnN.on (s : OwnN e B h v l) (k : Keep NoneOf h h') : OwnN e B h' v l := s.keep k (fun _ _ => id) fun _ _ _ _ => id
theorem OwnN.blk (s : OwnN e B h v l) : ∀ b, v.blk = some b → b < h.length := OwnL.blk s
theorem OwnN.scalar (s : OwnN e B h v l) : v.scalar = true := let ⟨_, m, _⟩ := s; m.read.scalar
theorem OwnN.sl (s : OwnN e B h v l) (hv : ∀ b, v.blk = some b → B ≤ b) : Sl e h (fun b => B ≤ b) v l := (OwnL.sl s).mono fun b hb => by
 rcases hb with hb | hb
 ·exact hb.1
 ·exact hv b hb
end
def cellV (h : Heap) (k : Option Nat) : Option CV → Option CV
 | some (.ptr b o) => loadAt h b o k
 | _ => none
@[simp] theorem cellV_ptr {h : Heap} {k : Option Nat} {b o : Nat} : cellV h k (some (.ptr b o)) = loadAt h b o k := rfl
@[simp] theorem rvs_cell {e : Env} {h : Heap} {k : Option Nat} {t : Nat} {r : List RV} : rvs e h (.cell k t :: r) = consO (cellV h k (e.get t)) (rvs e h r) := by
 simp only [rvs]
 cases e.get t with
 | none => rfl
 | some v =>
   cases v <;> rfl
theorem store_new {h : Heap} {row z : List CV} (hl : row.length = z.length) (hs : row.all CV.scalar = true) : storeAt (h ++ [.arr z .tight]) h.length 0 row = some (h ++ [.arr row .tight]) := by
 simp only [storeAt, get_new]
 rw [if_pos ⟨by simp, by omega, hs⟩]
 simp [splice, hl]
theorem store_new2 {h : Heap} {o : Obj} {row z : List CV} (hl : row.length = z.length) (hs : row.all CV.scalar = true) : storeAt (h ++ [o, .arr z .tight]) (h.length + 1) 0 row = some (h ++ [o, .arr row .tight]) := by
 have := store_new (h := h ++ [o]) hl hs
 simpa using this
theorem one0 {h : Heap} {c : List CV} (o : Nat) : loadAt (h ++ [.arr c .tight]) h.length o none = c[o]? := by simp [loadAt]
theorem two0 {h : Heap} {c : List CV} {ob : Obj} (o : Nat) : loadAt (h ++ [.arr c .tight, ob]) h.length o none = c[o]? := by simp [loadAt]
theorem two0n {h : Heap} {c : List CV} {ob : Obj} {n : Nat} (hl : c.length = n) : loadAt (h ++ [.arr c .tight, ob]) h.length 0 (some n) = some (.agg c) := by subst hl; simp [loadAt]
theorem two1n {h : Heap} {d : List CV} {ob : Obj} {n : Nat} (hl : d.length = n) : loadAt (h ++ [ob, .arr d .tight]) (h.length + 1) 0 (some n) = some (.agg d) := by subst hl; simp [loadAt]
theorem two_st0 {h : Heap} {c : List CV} {ob : Obj} {o : Nat} {v : CV} (ho : o < c.length) (hv : v.scalar = true) : storeAt (h ++ [.arr c .tight, ob]) h.length o [v] = some (h ++ [.arr (c.set o v) .tight, ob]) := by
 have g : (h ++ [.arr c .tight, ob])[h.length]? = some (.arr c .tight) := by simp
 rw [stt g, if_pos ⟨by simp; omega, by simp [hv]⟩, splice_set ho]
 simp
theorem sto {h : Heap} {b : Nat} {cs vs : List CV} (e : h[b]? = some (.arr cs .tight)) (hl : vs.length = cs.length) (hs : vs.all CV.scalar = true) : storeAt h b 0 vs = some (h.set b (.arr vs .tight)) := by
 rw [stt e, if_pos ⟨by omega, hs⟩]; simp [splice, hl]
theorem sto1 {h : Heap} {b o : Nat} {cs : List CV} {v : CV} (e : h[b]? = some (.arr cs .tight)) (ho : o < cs.length) (hv : v.scalar = true) : storeAt h b o [v] = some (h.set b (.arr (cs.set o v) .tight)) := by
 rw [stt e, if_pos ⟨by simp; omega, by simp [hv]⟩, splice_set ho]
theorem ldw {h : Heap} {b : Nat} {cs : List CV} {st : St} (e : h[b]? = some (.arr cs st)) {n : Nat} (hl : cs.length = n) : loadAt h b 0 (some n) = some (.agg cs) := by
 subst hl; simp [loadAt, e]
theorem CV.cells_scalar {v : CV} (h : v.scalar = true) : v.cells = [v] := by cases v <;> first | rfl | simp [CV.scalar] at h
theorem fits_scalar {v : CV} (h : v.scalar = true) : fits none v = true := by cases v <;> first | rfl | simp [CV.scalar] at h
theorem Cod.cells {α : Type} (e : Cod α) {h : Heap} {P : Nat → Prop} {c : List CV} {x : α} (_ : e.rep h P c x) : (CV.agg c).cells = c := rfl
theorem Cod.on {α : Type} (e : Cod α) {h h' : Heap} {P : Nat → Prop} {c : List CV} {x : α} (r : e.rep h P c x) (k : Keep NoneOf h h') : e.rep h' P c x := e.keep r k fun _ _ => id
theorem rows_ints {k : IntKind} {h : Heap} {P : Nat → Prop} {c : List CV} {l : List Int} : Rows (.int k) h P c l ↔ c = ints k l := by
 constructor
 ·intro r
  apply List.ext_getElem?
  intro i
  rw [ints_get]
  have hl : c.length = l.length := by simpa [Cod.int] using r.1
  by_cases hi : i < l.length
  ·have := r.2 i _ (List.getElem?_eq_getElem hi)
   simp only [Cod.int, Nat.mul_one] at this
   rw [List.getElem?_eq_getElem hi]
   have e2 : (c.drop i).take 1 = [c[i]] := by rw [List.drop_eq_getElem_cons (by omega), List.take_succ_cons, List.take_zero]
   rw [e2] at this
   simp at this
   rw [List.getElem?_eq_getElem (by omega), this]; rfl
  ·rw [List.getElem?_eq_none (by omega), List.getElem?_eq_none (by omega)]; rfl
 ·rintro rfl
  refine ⟨by simp [Cod.int], fun i x hx => ?_⟩
  have hi : i < l.length := (List.getElem?_eq_some_iff.1 hx).1
  have e2 : ((ints k l).drop i).take 1 = [.int k x] := by
   rw [List.drop_eq_getElem_cons (by simpa using hi), List.take_succ_cons, List.take_zero]
   have := (List.getElem?_eq_some_iff.1 hx).2
   simp [ints, this]
  simpa [Cod.int] using e2
theorem Sl.ints {k : IntKind} {h : Heap} {P : Nat → Prop} {v : CV} {l : List Int} (s : Sl (.int k) h P v l) : Read h 1 v (Cl.ints k l) := by
 obtain ⟨c, r, _, rs⟩ := s
 rw [rows_ints] at rs; subst rs; exact r
theorem Sl.of_ints {k : IntKind} {h : Heap} {v : CV} {l : List Int} (s : Read h 1 v (Cl.ints k l)) (ok : v.ok) : Sl (.int k) h (fun b => v.blk = some b) v l := ⟨_, s, ⟨ok, fun _ hb => hb⟩, rows_ints.2 rfl⟩
theorem Sl.fresh {α : Type} {e : Cod α} {h : Heap} {cells : List CV} {l : List α} {st : St} {n : Nat} (r : Rows e (h ++ [.arr cells st]) (From h) cells l) (hn : n = l.length) : Sl e (h ++ [.arr cells st]) (From h) (.sl h.length 0 n n) l := by
 subst hn
 refine ⟨cells, .inr ⟨h.length, 0, l.length, l.length, cells, st, rfl, r.1, by simp, by rw [r.1]; omega, ?_⟩, ⟨Nat.le_refl _, fun b hb => ?_⟩, r⟩
 ·rw [← r.1]; simp
 ·simp [CV.blk] at hb; subst hb; exact Nat.le_refl _
def Tells {α : Type} (ty : Ty) (e : Cod α) (W : α → Prop) : Prop := ty.n = e.n ∧ ∀ (h : Heap) c, Sh h ty c → ∃ x, e.rep h (fun b => b < h.length) c x ∧ W x
theorem Tells.int (k : IntKind) : Tells (.int k) (.int k) fun x => k.min ≤ x ∧ x ≤ k.max := by
 refine ⟨rfl, fun h c ⟨n, hc, hw⟩ => ⟨n, hc, ?_⟩⟩
 simpa only [Lit.wf, Bool.and_eq_true, decide_eq_true_eq] using hw
theorem Tells.bool : Tells .bool .bool fun _ => True := ⟨rfl, fun h c ⟨b, hc⟩ => ⟨b, hc, trivial⟩⟩
theorem Tells.str : Tells .str .str fun s => s.length ≤ maxLen := ⟨rfl, fun h c ⟨s, hc, hw⟩ => ⟨s, hc, hw⟩⟩
theorem Tells.sl {α : Type} {ty : Ty} {e : Cod α} {W : α → Prop} (r : Tells ty e W) : Tells (.sl ty) (.sl e) fun l => l.length ≤ maxLen ∧ ∀ x ∈ l, W x := by
 refine ⟨rfl, fun h c hs => ?_⟩
 rcases (hs : Sh h (.sl ty) c) with rfl | ⟨b, n, cs, rfl, h2, h3, h4, h5⟩
 ·exact ⟨[], ⟨.nils, rfl, Sl.nil⟩, by simp, by simp⟩
 ·have hb := lt_of_get h2
  rw [r.1] at h3 h5
  have key : ∀ (n : Nat) (cs : List CV), cs.length = n * e.n → (∀ i, i < n → Sh h ty ((cs.drop (i * e.n)).take e.n)) → ∃ l : List α, l.length = n ∧ Rows e h (fun b => b < h.length) cs l ∧ ∀ x ∈ l, W x := by
   intro n
   induction n with
   | zero => intro cs hc _; refine ⟨[], rfl, ?_, by simp⟩; have : cs = [] := List.length_eq_zero_iff.1 (by simpa using hc); subst this; exact Rows.nil
   | succ n ih =>
     intro cs hc hk
     have h0 := hk 0 (by omega)
     simp only [Nat.zero_mul, List.drop_zero] at h0
     obtain ⟨x, hx, hw⟩ := r.2 h _ h0
     obtain ⟨l, hl, hr, hwl⟩ := ih (cs.drop e.n) (by rw [List.length_drop, hc, Nat.succ_mul]; omega) (fun i hi => by
      have := hk (i + 1) (by omega)
      rw [List.drop_drop, show e.n + i * e.n = (i + 1) * e.n by rw [Nat.succ_mul]; omega]
      exact this)
     refine ⟨x :: l, by simp [hl], ?_, ?_⟩
     ·have := (Rows.one hx).append hr
      rwa [List.take_append_drop] at this
     ·intro y hy
      rcases List.mem_cons.1 hy with rfl | hy
      ·exact hw
      ·exact hwl y hy
  obtain ⟨l, hl, hr, hw⟩ := key n cs h3 h5
  refine ⟨l, ⟨_, rfl, cs, ?_, ⟨Nat.le_refl n, ?_⟩, hr⟩, by omega, hw⟩
  ·exact .inr ⟨b, 0, n, n, cs, .ro, rfl, h3, h2, by omega, by simp [← h3]⟩
  ·intro b' hb'; simp [CV.blk] at hb'; subst hb'; exact hb
theorem Sl.scalar {α : Type} {e : Cod α} {h : Heap} {P : Nat → Prop} {v : CV} {l : List α} (s : Sl e h P v l) : v.scalar = true := let ⟨_, r, _⟩ := s; r.scalar
theorem Sl.cells {α : Type} {e : Cod α} {h : Heap} {P : Nat → Prop} {v : CV} {l : List α} (s : Sl e h P v l) : v.cells = [v] := by
 have := s.scalar
 cases v <;> first | rfl | simp [CV.scalar] at this
theorem OwnL.scalar {α : Type} {e : Cod α} {h : Heap} {P : Nat → Prop} {v : CV} {l : List α} (s : OwnL e h P v l) : v.scalar = true := s.sl.scalar
theorem arg_int {k : IntKind} {h : Heap} {v : CV} (a : Arg h (.int k) v) : ∃ n, v = .int k n ∧ k.min ≤ n ∧ n ≤ k.max := by
 obtain ⟨n, hn, hw⟩ := (show Sh h (.int k) [v] from a)
 simp at hn
 simp only [Lit.wf, Bool.and_eq_true, decide_eq_true_eq] at hw
 exact ⟨n, hn, hw⟩
theorem argL4 {h : Heap} {a b c d : Ty} {vs : List CV} (k : ArgL h [a, b, c, d] vs) : ∃ v w x y, vs = [v, w, x, y] ∧ Arg h a v ∧ Arg h b w ∧ Arg h c x ∧ Arg h d y := by
 match vs, k with
 | [v, w, x, y], k => exact ⟨v, w, x, y, rfl, k.1, k.2.1, k.2.2.1, k.2.2.2.1⟩
def back : Nat → SCode → SCode
 | n + 1, .seq _ b => back n b
 | _, c => c
def midQ (M : Env → Heap → Prop) (Q : Ex → Env → Heap → Prop) : Ex → Env → Heap → Prop := fun x e' h' => match x with | .normal => M e' h' | x => Q x e' h'
@[simp] theorem midQ_n {M : Env → Heap → Prop} {Q : Ex → Env → Heap → Prop} {e : Env} {h : Heap} : midQ M Q .normal e h = M e h := id rfl
@[simp] theorem midQ_r {M : Env → Heap → Prop} {Q : Ex → Env → Heap → Prop} {e : Env} {h : Heap} : midQ M Q .ret e h = Q .ret e h := id rfl
@[simp] theorem midQ_e {M : Env → Heap → Prop} {Q : Ex → Env → Heap → Prop} {e : Env} {h : Heap} {i : Nat} : midQ M Q (.exit i) e h = Q (.exit i) e h := id rfl
end Go.Cl
