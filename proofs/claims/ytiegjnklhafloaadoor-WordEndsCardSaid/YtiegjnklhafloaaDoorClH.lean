/-
  Heaps: what stays, what grows.
-/
import Derived.Test.YtiegjnklhafloaaDoorClR
namespace Go.Cl
open Go
set_option linter.unusedSimpArgs false
set_option linter.unusedVariables false

theorem lt_of_get {h : Heap} {b : Nat} {o : Obj} (e : h[b]? = some o) : b < h.length := (List.getElem?_eq_some_iff.1 e).1

theorem get_app {h g : Heap} {b : Nat} {o : Obj} (e : h[b]? = some o) : (h ++ g)[b]? = some o := by
  rw [List.getElem?_append_left (lt_of_get e)]; exact e

theorem get_new {h : Heap} {o : Obj} : (h ++ [o])[h.length]? = some o := by simp

theorem get_set_ne {h : Heap} {b c : Nat} {o : Obj} (hne : c ≠ b) : (h.set c o)[b]? = h[b]? := List.getElem?_set_ne hne

theorem get_set_self {h : Heap} {b : Nat} {o : Obj} (hb : b < h.length) : (h.set b o)[b]? = some o := List.getElem?_set_self hb

theorem ne_of_obj {h : Heap} {a b : Nat} {x y : Obj} (e : h[a]? = some x) (f : h[b]? = some y) (hne : x ≠ y) : a ≠ b := fun he => by
  subst he; rw [e] at f; cases f; exact hne rfl

/-- all that was there stands, but for what lies at these -/
structure Keep (S : Nat → Prop) (h h' : Heap) : Prop where
  len : h.length ≤ h'.length
  get : ∀ b, b < h.length → ¬ S b → h'[b]? = h[b]?

theorem Keep.refl (S : Nat → Prop) (h : Heap) : Keep S h h := ⟨Nat.le_refl _, fun _ _ _ => rfl⟩
theorem Keep.trans {S : Nat → Prop} {a b c : Heap} (x : Keep S a b) (y : Keep S b c) : Keep S a c :=
  ⟨Nat.le_trans x.len y.len, fun i hi hS => (y.get i (Nat.lt_of_lt_of_le hi x.len) hS).trans (x.get i hi hS)⟩
theorem Keep.mono {S T : Nat → Prop} {a b : Heap} (x : Keep S a b) (h : ∀ i, i < a.length → S i → T i) : Keep T a b := ⟨x.len, fun i hi hT => x.get i hi fun k => hT (h i hi k)⟩
theorem Keep.app (S : Nat → Prop) (h g : Heap) : Keep S h (h ++ g) := ⟨by simp, fun b hb _ => List.getElem?_append_left hb⟩
theorem Keep.set {S : Nat → Prop} (h : Heap) {b : Nat} (o : Obj) (hS : S b) : Keep S h (h.set b o) := ⟨by simp, fun c hc k => List.getElem?_set_ne fun e => k (by rw [← e]; exact hS)⟩
theorem Keep.at {S : Nat → Prop} {h h' : Heap} (k : Keep S h h') {b : Nat} {o : Obj} (e : h[b]? = some o) (hS : ¬ S b) : h'[b]? = some o := (k.get b (lt_of_get e) hS).trans e
theorem Keep.then {S T : Nat → Prop} {h a b : Heap} (x : Keep T h a) (y : Keep S a b) (hS : ∀ i, i < h.length → S i → T i) : Keep T h b :=
  ⟨Nat.le_trans x.len y.len, fun i hi hT => (y.get i (Nat.lt_of_lt_of_le hi x.len) fun k => hT (hS i hi k)).trans (x.get i hi hT)⟩

/-- what is not in the heap does not come into it -/
def NoneOf : Nat → Prop := fun _ => False

theorem ld {h : Heap} {b : Nat} {cs : List CV} {st : St} (e : h[b]? = some (.arr cs st)) (o : Nat) : loadAt h b o none = cs[o]? := by simp [loadAt, e]
theorem ldn {h : Heap} {b : Nat} {cs : List CV} {st : St} (e : h[b]? = some (.arr cs st)) (o n : Nat) : loadAt h b o (some n) = if o + n ≤ cs.length then some (.agg ((cs.drop o).take n)) else none := by simp [loadAt, e]
theorem stt {h : Heap} {b : Nat} {cs : List CV} (e : h[b]? = some (.arr cs .tight)) (o : Nat) (vs : List CV) : storeAt h b o vs = if o + vs.length ≤ cs.length ∧ vs.all CV.scalar = true then some (h.set b (.arr (splice cs o vs) .tight)) else none := by simp [storeAt, e]

/-! ### slices that grow -/

def CV.blk : CV → Option Nat
  | .sl b _ _ _ => some b
  | _ => none

/-- a slice that only appends have made -/
def Grown (h : Heap) (esz : Nat) (v : CV) (l : List CV) : Prop :=
  (v = .nils ∧ l = []) ∨ ∃ b n, v = .sl b 0 n n ∧ l.length = n * esz ∧ 0 < n ∧ h[b]? = some (.arr l (.loose esz))

theorem Grown.keep {S : Nat → Prop} {h h' : Heap} {esz : Nat} {v : CV} {l : List CV} (g : Grown h esz v l) (k : Keep S h h') (hS : ∀ b, v.blk = some b → ¬ S b) : Grown h' esz v l := by
  rcases g with g | ⟨b, n, rfl, h1, h2, h3⟩
  · exact .inl g
  · exact .inr ⟨b, n, rfl, h1, h2, k.at h3 (hS b rfl)⟩

theorem append_grown {h : Heap} {esz : Nat} {v : CV} {l ys : List CV} {k : Nat} (g : Grown h esz v l) (hk : 0 < k) (hy : ys.length = k * esz) (hs : ys.all CV.scalar = true) (hbig : l.length ≤ big * esz) (hkb : k ≤ big) (hesz : 0 < esz) :
    ∃ h', appendTo h esz v k ys = some (.sl h.length 0 (l.length / esz + k) (l.length / esz + k), h') ∧ Grown h' esz (.sl h.length 0 (l.length / esz + k) (l.length / esz + k)) (l ++ ys) ∧ h'.length = h.length + 1 ∧ Keep (fun b => v.blk = some b) h h' := by
  have hkb' : ¬ (k > big ∨ ys.all CV.scalar = false) := by rw [hs]; simp; exact hkb
  rcases g with ⟨rfl, rfl⟩ | ⟨b, n, rfl, h1, h2, h3⟩
  · refine ⟨h ++ [.arr ys (.loose esz)], ?_, ?_, by simp, Keep.app _ _ _⟩
    · simp only [appendTo]
      rw [if_neg hkb', if_neg (by omega)]
      simp
    · refine .inr ⟨h.length, k, by simp, by simpa using hy, hk, by simp⟩
  · have hn : l.length / esz = n := by rw [h1]; exact Nat.mul_div_cancel _ hesz
    have hnb : ¬ n > big := by
      intro hgt
      have : (big + 1) * esz ≤ n * esz := Nat.mul_le_mul_right _ hgt
      rw [Nat.succ_mul] at this
      omega
    have hkill : kill h b = h.set b .dead := by simp [kill, h3]
    refine ⟨h.set b .dead ++ [.arr (l ++ ys) (.loose esz)], ?_, ?_, by simp, ?_⟩
    · simp only [appendTo]
      rw [if_neg hkb', if_neg hnb, if_neg (by omega), if_neg (by omega)]
      simp only [h3]
      rw [if_pos ⟨by simp, by simp, by omega, by omega⟩, hkill, hn]
      simp [← h1]
    · refine .inr ⟨h.length, n + k, by rw [hn], by rw [List.length_append, h1, hy, Nat.add_mul], by omega, ?_⟩
      have : h.length = (h.set b .dead).length := by simp
      rw [this]; exact get_new
    · exact ⟨by simp, fun c hc hne => by rw [List.getElem?_append_left (by simpa using hc), List.getElem?_set_ne (fun e => hne (by simp [CV.blk, e]))]⟩

theorem OV_append {h : Heap} {esz : Nat} {v : CV} {l ys : List CV} {k N n : Nat} {K : CV × Heap → Prop} (g : Grown h esz v l) (hN : h.length = N) (hn : l.length = n * esz) (hk : 0 < k) (hy : ys.length = k * esz) (hs : ys.all CV.scalar = true) (hbig : n ≤ big) (hkb : k ≤ big) (hesz : 0 < esz)
    (kk : ∀ h', Grown h' esz (.sl N 0 (n + k) (n + k)) (l ++ ys) → h'.length = N + 1 → Keep (fun b => v.blk = some b) h h' → K (.sl N 0 (n + k) (n + k), h')) :
    OV (appendTo h esz v k ys) K := by
  obtain ⟨h', a1, a2, a3, a4⟩ := append_grown g hk hy hs (by rw [hn]; exact Nat.mul_le_mul_right _ hbig) hkb hesz
  rw [hn, Nat.mul_div_cancel _ hesz, hN] at a1 a2
  exact ⟨_, a1, kk h' a2 (by rw [a3, hN]) a4⟩

theorem splice_set {cs : List CV} {o : Nat} {v : CV} (h : o < cs.length) : splice cs o [v] = cs.set o v := by
  simp only [splice, List.length_singleton]
  rw [List.set_eq_take_append_cons_drop, if_pos h]
  simp

/-- a slice that can be read -/
def Read (h : Heap) (esz : Nat) (v : CV) (l : List CV) : Prop :=
  (v = .nils ∧ l = []) ∨ ∃ b o n c cs st, v = .sl b o n c ∧ l.length = n * esz ∧ h[b]? = some (.arr cs st) ∧ o + n * esz ≤ cs.length ∧ l = (cs.drop o).take (n * esz)

theorem Read.keep {S : Nat → Prop} {h h' : Heap} {esz : Nat} {v : CV} {l : List CV} (g : Read h esz v l) (k : Keep S h h') (hS : ∀ b, v.blk = some b → ¬ S b) : Read h' esz v l := by
  rcases g with g | ⟨b, o, n, c, cs, st, rfl, h1, h2, h3⟩
  · exact .inl g
  · exact .inr ⟨b, o, n, c, cs, st, rfl, h1, k.at h2 (hS b rfl), h3⟩

theorem Read.blk_lt {h : Heap} {esz : Nat} {v : CV} {l : List CV} (g : Read h esz v l) : ∀ b, v.blk = some b → b < h.length := by
  rcases g with ⟨rfl, _⟩ | ⟨b, o, n, c, cs, st, rfl, _, h2, _⟩
  · intro b hb; simp [CV.blk] at hb
  · intro b' hb; simp [CV.blk] at hb; subst hb; exact lt_of_get h2

theorem Grown.read {h : Heap} {esz : Nat} {v : CV} {l : List CV} (g : Grown h esz v l) : Read h esz v l := by
  rcases g with g | ⟨b, n, rfl, h1, h2, h3⟩
  · exact .inl g
  · exact .inr ⟨b, 0, n, n, l, _, rfl, h1, h3, by omega, by simp [← h1]⟩

theorem Read.len {h : Heap} {esz : Nat} {v : CV} {l : List CV} (g : Read h esz v l) (he : 0 < esz) : lenV h .sl v = some (.int .i64 (l.length / esz : Nat)) := by
  rcases g with ⟨rfl, rfl⟩ | ⟨b, o, n, c, cs, st, rfl, h1, h2, h3, h4⟩
  · simp
  · rw [h1, Nat.mul_div_cancel _ he]; rfl

/-- an element's cell -/
theorem Read.cell {h : Heap} {esz : Nat} {v : CV} {l : List CV} (g : Read h esz v l) {i : Nat} {k : IntKind} (hi : (i + 1) * esz ≤ l.length) (he : 0 < esz) :
    ∃ b o, idxAddrV esz v (.int k (i : Int)) = some (.ptr b o) ∧ v.blk = some b ∧ ∀ j, j < esz → loadAt h b (o + j) none = l[i * esz + j]? := by
  rcases g with ⟨rfl, rfl⟩ | ⟨b, o, n, c, cs, st, rfl, h1, h2, h3, h4⟩
  · rw [Nat.succ_mul] at hi; simp at hi; omega
  · have hin : i < n := by
      rw [h1] at hi
      have := Nat.le_of_mul_le_mul_right hi he
      omega
    refine ⟨b, o + i * esz, ?_, rfl, fun j hj => ?_⟩
    · rw [idxAddrV_sl, if_pos ⟨by omega, by omega⟩]; simp
    · simp only [loadAt, h2]
      have hlt : i * esz + j < n * esz := by
        have : (i + 1) * esz ≤ n * esz := Nat.mul_le_mul_right _ hin
        rw [Nat.succ_mul] at this; omega
      rw [h4, List.getElem?_take_of_lt hlt, List.getElem?_drop]
      congr 1; omega

/-- an element's cells, all of them -/
theorem Read.row {h : Heap} {esz : Nat} {v : CV} {l : List CV} (g : Read h esz v l) {i : Nat} {k : IntKind} (hi : (i + 1) * esz ≤ l.length) (he : 0 < esz) :
    ∃ b o, idxAddrV esz v (.int k (i : Int)) = some (.ptr b o) ∧ v.blk = some b ∧ loadAt h b o (some esz) = some (.agg ((l.drop (i * esz)).take esz)) := by
  rcases g with ⟨rfl, rfl⟩ | ⟨b, o, n, c, cs, st, rfl, h1, h2, h3, h4⟩
  · rw [Nat.succ_mul] at hi; simp at hi; omega
  · have hin : i < n := by
      rw [h1] at hi
      have := Nat.le_of_mul_le_mul_right hi he
      omega
    have hm : (i + 1) * esz ≤ n * esz := Nat.mul_le_mul_right _ hin
    rw [Nat.succ_mul] at hm
    refine ⟨b, o + i * esz, ?_, rfl, ?_⟩
    · rw [idxAddrV_sl, if_pos ⟨by omega, by omega⟩]; simp
    · simp only [loadAt, h2]
      rw [if_pos (by omega), h4]
      congr 2
      rw [List.drop_take, List.drop_drop, List.take_take]
      congr 1; omega

end Go.Cl
