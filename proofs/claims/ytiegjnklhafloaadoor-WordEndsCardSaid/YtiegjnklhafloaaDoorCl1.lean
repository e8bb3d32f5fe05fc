/-
  How clean values, objects and environments stand for the model's: 'tr', 'Sim', 'ER', 'Evo'; what a new object, a store, an object that is let go do to that. Nothing here is about a program of ours.
-/
import Derived.Test.YtiegjnklhafloaaDoorCl0
import Derived.Orders
import Derived.Laws.Entries
namespace Go.Cl
open Go

/-- where a clean object lies: block, first cell, how many elements more there is room for -/
structure Loc where
  blk : Nat
  off : Nat
  slack : Nat
  spot : Option Nat

/-- the address of a cell of it -/
def Loc.ad (L : Loc) (o : Nat) : Addr := Addr.add ⟨L.blk, L.off, L.spot⟩ o

theorem Loc.ad_add (L : Loc) (o k : Nat) : (L.ad o).add k = L.ad (o + k) := by
  unfold Loc.ad Addr.add
  by_cases h : o = 0 <;> by_cases h2 : k = 0 <;> simp [h, h2]
  omega

theorem Loc.ad_none {L : Loc} (h : L.spot = none) (o : Nat) : L.ad o = ⟨L.blk, L.off + o, none⟩ := by
  unfold Loc.ad; rw [h, Addr.add_lit]

@[simp] theorem Loc.ad_new (b s : Nat) : Loc.ad ⟨b, 0, s, none⟩ 0 = ⟨b, 0, none⟩ := by simp [Loc.ad, Addr.add]

/-- functions and types of a program, by the clean numbers -/
structure Gam where
  F : Nat → Option FuncId
  T : Nat → TypeId
  /-- the objects with which every heap begins: package-level variables -/
  K : Heap := []

abbrev Mp := Nat → Option Loc

mutual
def tr (G : Gam) (m : Mp) : CV → Option Value
  | .int k n => some (.int k n)
  | .bool b => some (.bool b)
  | .str s => some (.string ⟨s.toArray⟩)
  | .ptr b o => (m b).map fun L => .pointer (some (L.ad o))
  | .nilp => some (.pointer none)
  | .sl b o n c => (m b).map fun L => .slice (some (L.ad o)) n (c + L.slack)
  | .nils => some (.slice none 0 0)
  | .mp b => (m b).map fun L => .map (some L.blk)
  | .nilm => some (.map none)
  | .ch b => (m b).map fun L => .chan (some L.blk)
  | .nilc => some (.chan none)
  | .fn f caps => match G.F f, trL G m caps with
    | some fid, some vs => some (.func (.func fid) #[] vs.toArray)
    | _, _ => none
  | .nilf => some .nilFunc
  | .ifc t v => match tr G m v with
    | some rv => some (.iface (G.T t) rv)
    | none => none
  | .nili => some .nilIface
  | .agg l => match trL G m l with
    | some vs => some (.agg vs.toArray)
    | none => none
  | .tup l => match trL G m l with
    | some vs => some (.tuple vs.toArray)
    | none => none
def trL (G : Gam) (m : Mp) : List CV → Option (List Value)
  | [] => some []
  | v :: r => match tr G m v, trL G m r with
    | some x, some xs => some (x :: xs)
    | _, _ => none
end

def Mp.le (m m' : Mp) : Prop := ∀ b L, m b = some L → m' b = some L

theorem Mp.le_refl (m : Mp) : m.le m := fun _ _ h => h
theorem Mp.le_trans {a b c : Mp} (h : a.le b) (k : b.le c) : a.le c := fun x L e => k x L (h x L e)

mutual
theorem tr_mono (G : Gam) {m m' : Mp} (hm : m.le m') : ∀ (v : CV) (rv : Value), tr G m v = some rv → tr G m' v = some rv
  | .int _ _, _, h | .bool _, _, h | .str _, _, h | .nilp, _, h | .nils, _, h | .nilm, _, h | .nilc, _, h | .nilf, _, h | .nili, _, h => by simpa [tr] using h
  | .ptr b o, rv, h => by
    cases hb : m b with
    | none => simp [tr, hb] at h
    | some L => simpa [tr, hb, hm b L hb] using h
  | .sl b o n c, rv, h => by
    cases hb : m b with
    | none => simp [tr, hb] at h
    | some L => simpa [tr, hb, hm b L hb] using h
  | .mp b, rv, h => by
    cases hb : m b with
    | none => simp [tr, hb] at h
    | some L => simpa [tr, hb, hm b L hb] using h
  | .ch b, rv, h => by
    cases hb : m b with
    | none => simp [tr, hb] at h
    | some L => simpa [tr, hb, hm b L hb] using h
  | .fn f caps, rv, h => by
    simp only [tr] at h ⊢
    cases hf : G.F f with
    | none => simp [hf] at h
    | some fid =>
      cases hl : trL G m caps with
      | none => simp [hf, hl] at h
      | some vs => rw [trL_mono G hm caps vs hl]; simpa [hf, hl] using h
  | .ifc t v, rv, h => by
    simp only [tr] at h ⊢
    cases hv : tr G m v with
    | none => simp [hv] at h
    | some x => rw [tr_mono G hm v x hv]; simpa [hv] using h
  | .agg l, rv, h => by
    simp only [tr] at h ⊢
    cases hl : trL G m l with
    | none => simp [hl] at h
    | some vs => rw [trL_mono G hm l vs hl]; simpa [hl] using h
  | .tup l, rv, h => by
    simp only [tr] at h ⊢
    cases hl : trL G m l with
    | none => simp [hl] at h
    | some vs => rw [trL_mono G hm l vs hl]; simpa [hl] using h
theorem trL_mono (G : Gam) {m m' : Mp} (hm : m.le m') : ∀ (l : List CV) (vs : List Value), trL G m l = some vs → trL G m' l = some vs
  | [], vs, h => by simpa [trL] using h
  | v :: r, vs, h => by
    simp only [trL] at h ⊢
    cases hv : tr G m v with
    | none => simp [hv] at h
    | some x =>
      cases hl : trL G m r with
      | none => simp [hv, hl] at h
      | some xs => rw [tr_mono G hm v x hv, trL_mono G hm r xs hl]; simpa [hv, hl] using h
end

section lists
variable {G : Gam} {m : Mp}

theorem trL_cons {v : CV} {r : List CV} {vs : List Value} (h : trL G m (v :: r) = some vs) : ∃ x xs, tr G m v = some x ∧ trL G m r = some xs ∧ vs = x :: xs := by
  simp only [trL] at h
  cases hv : tr G m v with
  | none => simp [hv] at h
  | some x =>
    cases hl : trL G m r with
    | none => simp [hv, hl] at h
    | some xs => simp [hv, hl] at h; exact ⟨x, xs, rfl, rfl, h.symm⟩

theorem trL_cons_mk {v : CV} {r : List CV} {x : Value} {xs : List Value} (h : tr G m v = some x) (k : trL G m r = some xs) : trL G m (v :: r) = some (x :: xs) := by
  simp [trL, h, k]

theorem trL_length {l : List CV} : ∀ {vs : List Value}, trL G m l = some vs → vs.length = l.length := by
  induction l with
  | nil => intro vs h; simp [trL] at h; subst h; rfl
  | cons v r ih => intro vs h; obtain ⟨x, xs, _, hl, rfl⟩ := trL_cons h; simp [ih hl]

theorem trL_get {l : List CV} : ∀ {vs : List Value}, trL G m l = some vs → ∀ (i : Nat) v, l[i]? = some v → ∃ rv, tr G m v = some rv ∧ vs[i]? = some rv := by
  induction l with
  | nil => intro vs h i v hv; simp at hv
  | cons u r ih =>
    intro vs h i v hv
    obtain ⟨x, xs, hx, hl, rfl⟩ := trL_cons h
    cases i with
    | zero => simp at hv; subst hv; exact ⟨x, hx, by simp⟩
    | succ i => simpa using ih hl i v (by simpa using hv)

theorem trL_mk {l : List CV} : ∀ {vs : List Value}, vs.length = l.length → (∀ (i : Nat) v, l[i]? = some v → ∃ rv, tr G m v = some rv ∧ vs[i]? = some rv) → trL G m l = some vs := by
  induction l with
  | nil => intro vs h _; cases vs with | nil => rfl | cons _ _ => simp at h
  | cons u r ih =>
    intro vs h k
    cases vs with
    | nil => simp at h
    | cons x xs =>
      obtain ⟨rv, h0, h1⟩ := k 0 u (by simp)
      simp at h1; subst h1
      exact trL_cons_mk h0 (ih (by simpa using h) fun i v hv => by simpa using k (i + 1) v (by simpa using hv))

theorem trL_append {a b : List CV} {x y : List Value} (h : trL G m a = some x) (k : trL G m b = some y) : trL G m (a ++ b) = some (x ++ y) := by
  induction a generalizing x with
  | nil => simp [trL] at h; subst h; simpa using k
  | cons v r ih => obtain ⟨u, us, hv, hl, rfl⟩ := trL_cons h; exact trL_cons_mk hv (ih hl)

end lists

/-- a real value that lies in one cell -/
theorem tr_scalar {G : Gam} {m : Mp} {v : CV} {rv : Value} (h : tr G m v = some rv) (hs : v.scalar = true) : rv.oneCell' = true := by
  cases v with
  | agg l => simp [CV.scalar] at hs
  | tup l => simp [CV.scalar] at hs
  | ptr b o | sl b o _ _ | mp b | ch b => cases hb : m b <;> simp [tr, hb] at h; subst h; rfl
  | fn f caps => cases hf : G.F f <;> cases hl : trL G m caps <;> simp [tr, hf, hl] at h; subst h; rfl
  | ifc t v => cases hv : tr G m v <;> simp [tr, hv] at h; subst h; rfl
  | _ => simp [tr] at h; subst h; rfl

theorem cells_one {G : Gam} {m : Mp} {v : CV} {rv : Value} (h : tr G m v = some rv) : ∃ vs, trL G m v.cells = some vs ∧ rv.cells = vs.toArray := by
  cases v with
  | agg l =>
    cases hl : trL G m l with
    | none => simp [tr, hl] at h
    | some vs => simp [tr, hl] at h; subst h; exact ⟨vs, hl, rfl⟩
  | tup l => cases hl : trL G m l <;> simp [tr, hl] at h; subst h; exact ⟨[.tuple _], by simp [CV.cells, trL, tr, hl], rfl⟩
  | ptr b o | sl b o _ _ | mp b | ch b => cases hb : m b <;> simp [tr, hb] at h; subst h; exact ⟨[_], by simp [CV.cells, trL, tr, hb], rfl⟩
  | fn f caps => cases hf : G.F f <;> cases hl : trL G m caps <;> simp [tr, hf, hl] at h; subst h; exact ⟨[_], by simp [CV.cells, trL, tr, hf, hl], rfl⟩
  | ifc t v => cases hv : tr G m v <;> simp [tr, hv] at h; subst h; exact ⟨[_], by simp [CV.cells, trL, tr, hv], rfl⟩
  | _ => simp [tr] at h; subst h; exact ⟨[_], by simp [CV.cells, trL, tr], rfl⟩

/-! ### objects -/

def slackCells (L : Loc) : St → Nat
  | .loose esz => L.slack * esz
  | _ => 0

def Entry.rel (G : Gam) (m : Mp) (x : CV × CV × Nat) (y : MapEntry) : Prop := tr G m x.1 = some y.key ∧ tr G m x.2.1 = some y.val ∧ x.2.2 = y.born

def Pin.is : Pin → Array Value → Prop
  | .ints k l, C => C = (l.map (Value.int k)).toArray
  | .anyInt k, C => ∃ n, C[0]? = some (.int k n)
  | .anyIfc, C => ∃ t v, C = #[.iface t v]

def ObjR (G : Gam) (m : Mp) (L : Loc) (w : World) : Obj → Prop
  | .arr cs st => (cs = [] ∧ st = .ro) ∨ ∃ C e fr, L.spot = none ∧ w.heap[L.blk]? = some (.cells C e fr) ∧ (∀ (i : Nat) v, cs[i]? = some v → ∃ rv, tr G m v = some rv ∧ C[L.off + i]? = some rv) ∧
      (st ≠ .ro → (st = .tight → L.slack = 0) ∧ L.off + cs.length + slackCells L st ≤ C.size ∧ ∀ j, j < cs.length + slackCells L st → ¬ (fr.1 ≤ L.off + j ∧ L.off + j < fr.2))
  | .map es clock => ∃ ES : Array MapEntry, w.heap[L.blk]? = some (.map ES clock) ∧ ES.size = es.length ∧ ∀ (i : Nat) x, es[i]? = some x → ∃ y, ES[i]? = some y ∧ Entry.rel G m x y
  | .chan cap buf => ∃ (BUF : Array Value) (s r : Nat), w.heap[L.blk]? = some (.chan cap BUF false s r false) ∧ trL G m buf = some BUF.toList
  | .dead => True
  | .pin g q => L.blk = g ∧ ∃ C e fr, w.heap[L.blk]? = some (.cells C e fr) ∧ q.is C

def ownedO : Obj → Bool
  | .arr _ st => st ≠ .ro
  | .map _ _ => true
  | .chan _ _ => true
  | .dead => false
  | .pin _ _ => false

def liveO : Obj → Bool
  | .arr cs st => st ≠ .ro || !cs.isEmpty
  | .map _ _ => true
  | .chan _ _ => true
  | .dead => false
  | .pin _ _ => true

def owned (h : Heap) (b : Nat) : Prop := ∃ o, h[b]? = some o ∧ ownedO o = true
def live (h : Heap) (b : Nat) : Prop := ∃ o, h[b]? = some o ∧ liveO o = true

theorem live_of_ownedO {o : Obj} (h : ownedO o = true) : liveO o = true := by cases o <;> simp_all [ownedO, liveO]
theorem owned.live {h : Heap} {b : Nat} (k : owned h b) : live h b := let ⟨o, a, c⟩ := k; ⟨o, a, live_of_ownedO c⟩

structure Sim (G : Gam) (m : Mp) (h : Heap) (w : World) : Prop where
  dom : ∀ b L, m b = some L → b < h.length
  obj : ∀ b L o, m b = some L → h[b]? = some o → ObjR G m L w o
  apart : ∀ b b' L L', b ≠ b' → m b = some L → m b' = some L' → owned h b → live h b' → L.blk ≠ L'.blk
  base : ∀ k o, G.K[k]? = some o → h[k]? = some o ∧ (∃ g q, o = .pin g q) ∧ ∃ L, m k = some L

/-- how a run turns the clean and the real memory -/
structure Evo (m : Mp) (h : Heap) (w : World) (m' : Mp) (h' : Heap) (w' : World) : Prop where
  mono : m.le m'
  len : h.length ≤ h'.length
  un : ∀ b, b < h.length → m b = none → m' b = none ∧ h'[b]? = h[b]?
  os : w'.os = w.os
  out : w'.output = w.output
  size : w.heap.size ≤ w'.heap.size
  frame : ∀ r, r < w.heap.size → (∀ b L, m b = some L → owned h b → L.blk ≠ r) → w'.heap[r]? = w.heap[r]?
  own : ∀ b L, m' b = some L → owned h' b → w.heap.size ≤ L.blk ∨ ∃ b0 L0, m b0 = some L0 ∧ owned h b0 ∧ L0.blk = L.blk

theorem Evo.refl (m : Mp) (h : Heap) (w : World) : Evo m h w m h w :=
  ⟨Mp.le_refl m, Nat.le_refl _, fun _ _ e => ⟨e, rfl⟩, rfl, rfl, Nat.le_refl _, fun _ _ _ => rfl, fun b L e o => .inr ⟨b, L, e, o, rfl⟩⟩

theorem Evo.trans {m m1 m2 : Mp} {h h1 h2 : Heap} {w w1 w2 : World} (a : Evo m h w m1 h1 w1) (c : Evo m1 h1 w1 m2 h2 w2) : Evo m h w m2 h2 w2 where
  mono := Mp.le_trans a.mono c.mono
  len := Nat.le_trans a.len c.len
  un b hb e := by
    obtain ⟨e1, g1⟩ := a.un b hb e
    obtain ⟨e2, g2⟩ := c.un b (Nat.lt_of_lt_of_le hb a.len) e1
    exact ⟨e2, g2.trans g1⟩
  os := c.os.trans a.os
  out := c.out.trans a.out
  size := Nat.le_trans a.size c.size
  frame r hr hn := by
    rw [c.frame r (Nat.lt_of_lt_of_le hr a.size) ?_, a.frame r hr hn]
    intro b L e o he
    rcases a.own b L e o with g | ⟨b0, L0, e0, o0, he0⟩
    · omega
    · exact hn b0 L0 e0 o0 (he0.trans he)
  own b L e o := by
    rcases c.own b L e o with g | ⟨b0, L0, e0, o0, he0⟩
    · exact .inl (Nat.le_trans a.size g)
    · rcases a.own b0 L0 e0 o0 with g | ⟨b1, L1, e1, o1, he1⟩
      · exact .inl (he0 ▸ g)
      · exact .inr ⟨b1, L1, e1, o1, he1.trans he0⟩

theorem ObjR.mono {G : Gam} {m m' : Mp} {L : Loc} {w w' : World} {o : Obj} (hm : m.le m') (hw : liveO o = true → w'.heap[L.blk]? = w.heap[L.blk]?) (h : ObjR G m L w o) : ObjR G m' L w' o := by
  cases o with
  | arr cs st =>
    rcases h with h | ⟨C, e, fr, hsp, h1, h2, h3⟩
    · exact .inl h
    · by_cases hl : liveO (.arr cs st) = true
      · exact .inr ⟨C, e, fr, hsp, (hw hl).trans h1, fun i v hv => let ⟨rv, a, b⟩ := h2 i v hv; ⟨rv, tr_mono G hm v rv a, b⟩, h3⟩
      · simp [liveO] at hl; exact .inl ⟨hl.2, hl.1⟩
  | map es clock =>
    obtain ⟨ES, h1, h2, h3⟩ := h
    exact ⟨ES, (hw rfl).trans h1, h2, fun i x hx => let ⟨y, a, b⟩ := h3 i x hx; ⟨y, a, tr_mono G hm _ _ b.1, tr_mono G hm _ _ b.2.1, b.2.2⟩⟩
  | chan cap buf =>
    obtain ⟨B, s, r, h1, h2⟩ := h
    exact ⟨B, s, r, (hw rfl).trans h1, trL_mono G hm _ _ h2⟩
  | dead => exact trivial
  | pin g q =>
    obtain ⟨hg, C, e, fr, h1, h2⟩ := h
    exact ⟨hg, C, e, fr, (hw rfl).trans h1, h2⟩

theorem ObjR.blk_lt {G : Gam} {m : Mp} {L : Loc} {w : World} {o : Obj} (h : ObjR G m L w o) (hl : liveO o = true) : L.blk < w.heap.size := by
  have key : ∀ x, w.heap[L.blk]? = some x → L.blk < w.heap.size := fun x hx => by
    rcases Nat.lt_or_ge L.blk w.heap.size with h | h
    · exact h
    · simp [Array.getElem?_eq_none h] at hx
  cases o with
  | arr cs st =>
    rcases h with ⟨rfl, rfl⟩ | ⟨C, e, fr, _, h1, _⟩
    · simp [liveO] at hl
    · exact key _ h1
  | map es clock => obtain ⟨ES, h1, _⟩ := h; exact key _ h1
  | chan cap buf => obtain ⟨B, s, r, h1, _⟩ := h; exact key _ h1
  | dead => simp [liveO] at hl
  | pin g q => obtain ⟨_, C, e, fr, h1, _⟩ := h; exact key _ h1

def Mp.upd (m : Mp) (k : Nat) (L : Loc) : Mp := fun b => if b = k then some L else m b

theorem Mp.upd_le {m : Mp} {k : Nat} {L : Loc} (h : m k = none) : m.le (m.upd k L) := by
  intro b L' hb
  by_cases e : b = k
  · subst e; rw [h] at hb; cases hb
  · simp [Mp.upd, e, hb]

theorem Mp.upd_same (m : Mp) (k : Nat) (L : Loc) : m.upd k L k = some L := by simp [Mp.upd]

/-- objects behind the last one that no real memory stands for -/
theorem Sim.more {G : Gam} {m : Mp} {h : Heap} {w : World} (s : Sim G m h w) (g : Heap) : Sim G m (h ++ g) w := by
  have hget : ∀ b L, m b = some L → (h ++ g)[b]? = h[b]? := fun b L e => List.getElem?_append_left (s.dom b L e)
  refine ⟨fun b L e => by have := s.dom b L e; simp; omega, fun b L o e ho => s.obj b L o e ((hget b L e) ▸ ho), ?_, fun k o hk => let ⟨a1, a2, L, a3⟩ := s.base k o hk; ⟨(hget k L a3).trans a1, a2, L, a3⟩⟩
  rintro b b' L L' hne e e' ⟨o, ho, hO⟩ ⟨o', ho', hL⟩
  rw [hget b L e] at ho; rw [hget b' L' e'] at ho'
  exact s.apart b b' L L' hne e e' ⟨o, ho, hO⟩ ⟨o', ho', hL⟩

/-- real memory that changes only where no live object is -/
theorem Sim.world {G : Gam} {m : Mp} {h : Heap} {w w' : World} (s : Sim G m h w) (hw : ∀ b L, m b = some L → live h b → w'.heap[L.blk]? = w.heap[L.blk]?) : Sim G m h w' :=
  ⟨s.dom, fun b L o e ho => (s.obj b L o e ho).mono (Mp.le_refl m) fun hl => hw b L e ⟨o, ho, hl⟩, s.apart, s.base⟩

theorem Sim.blk_lt {G : Gam} {m : Mp} {h : Heap} {w : World} (s : Sim G m h w) {b : Nat} {L : Loc} (e : m b = some L) (l : live h b) : L.blk < w.heap.size :=
  let ⟨_, ho, hl⟩ := l; (s.obj b L _ e ho).blk_lt hl

/-- a new real place for an object that had none -/
theorem Sim.new {G : Gam} {m : Mp} {h : Heap} {w w' : World} (s : Sim G m h w) {k : Nat} {L : Loc} {o : Obj} (hk : m k = none) (ho : h[k]? = some o)
    (hw : ∀ b L, m b = some L → live h b → w'.heap[L.blk]? = w.heap[L.blk]?)
    (hl : liveO o = true → ∀ b L', m b = some L' → live h b → L'.blk ≠ L.blk)
    (hr : ObjR G (m.upd k L) L w' o) : Sim G (m.upd k L) h w' := by
  have hkl : k < h.length := by
    rcases Nat.lt_or_ge k h.length with g | g
    · exact g
    · simp [List.getElem?_eq_none g] at ho
  refine ⟨?_, ?_, ?_, fun j x hj => let ⟨a1, a2, L', a3⟩ := s.base j x hj; ⟨a1, a2, L', Mp.upd_le hk _ _ a3⟩⟩
  · intro b L' e
    by_cases hb : b = k
    · omega
    · simp [Mp.upd, hb] at e; exact s.dom b L' e
  · intro b L' o' e ho'
    by_cases hb : b = k
    · subst hb
      simp [Mp.upd] at e; subst e
      rw [ho] at ho'; cases ho'
      exact hr
    · simp [Mp.upd, hb] at e
      exact (s.obj b L' o' e ho').mono (Mp.upd_le hk) fun hl => hw b L' e ⟨o', ho', hl⟩
  · intro b b' L1 L2 hne e e' hO hL
    by_cases hb : b = k
    · subst hb
      simp [Mp.upd] at e; subst e
      have hb' : b' ≠ b := fun x => hne x.symm
      simp [Mp.upd, hb'] at e'
      obtain ⟨o1, g1, g2⟩ := hO
      rw [ho] at g1; cases g1
      exact fun x => hl (live_of_ownedO g2) b' L2 e' hL x.symm
    · simp [Mp.upd, hb] at e
      by_cases hb' : b' = k
      · subst hb'
        simp [Mp.upd] at e'; subst e'
        obtain ⟨o1, g1, g2⟩ := hL
        rw [ho] at g1; cases g1
        exact hl g2 b L1 e hO.live
      · simp [Mp.upd, hb'] at e'
        exact s.apart b b' L1 L2 hne e e' hO hL

/-- an object's own content is another one; what else is live stands where it stood -/
theorem Sim.turn {G : Gam} {m : Mp} {h : Heap} {w w' : World} (s : Sim G m h w) {b : Nat} {L : Loc} {o o' : Obj} (e : m b = some L) (ho : h[b]? = some o)
    (hO : ownedO o = true) (hw : ∀ b' L', b' ≠ b → m b' = some L' → live h b' → w'.heap[L'.blk]? = w.heap[L'.blk]?)
    (hr : ObjR G m L w' o') : Sim G m (h.set b o') w' := by
  have hbl : b < h.length := s.dom b L e
  have hget : ∀ x, x ≠ b → (h.set b o')[x]? = h[x]? := fun x hx => by rw [List.getElem?_set_ne (Ne.symm hx)]
  have hgb : (h.set b o')[b]? = some o' := by rw [List.getElem?_set_self hbl]
  refine ⟨fun x L' ex => by simpa using s.dom x L' ex, ?_, ?_, ?_⟩
  rotate_left 2
  · intro k x hk
    obtain ⟨a1, a2, a3⟩ := s.base k x hk
    have hkb : k ≠ b := fun hx => by subst hx; rw [ho] at a1; cases a1; obtain ⟨g, q, rfl⟩ := a2; cases hO
    exact ⟨(hget k hkb).trans a1, a2, a3⟩
  · intro x L' ox ex hx
    by_cases hxb : x = b
    · subst hxb; rw [e] at ex; cases ex; rw [hgb] at hx; cases hx; exact hr
    · rw [hget x hxb] at hx
      exact (s.obj x L' ox ex hx).mono (Mp.le_refl m) fun hl => hw x L' hxb ex ⟨ox, hx, hl⟩
  · have back : ∀ x, owned (h.set b o') x → owned h x := by
      rintro x ⟨ox, hx, hxo⟩
      by_cases hxb : x = b
      · subst hxb; exact ⟨o, ho, hO⟩
      · rw [hget x hxb] at hx; exact ⟨ox, hx, hxo⟩
    have backl : ∀ x, live (h.set b o') x → live h x := by
      rintro x ⟨ox, hx, hxo⟩
      by_cases hxb : x = b
      · subst hxb; exact ⟨o, ho, live_of_ownedO hO⟩
      · rw [hget x hxb] at hx; exact ⟨ox, hx, hxo⟩
    intro x x' L1 L2 hne e1 e2 h1 h2
    exact s.apart x x' L1 L2 hne e1 e2 (back x h1) (backl x' h2)

/-! ### environments -/

structure ER (G : Gam) (m : Mp) (N : Nat) (e : Env) (a : Act) : Prop where
  size : N ≤ a.tmps.size
  get : ∀ i v, Env.get e i = some v → ∃ rv, tr G m v = some rv ∧ a.tmps[i]? = some rv

theorem ER.mono {G : Gam} {m m' : Mp} {N : Nat} {e : Env} {a : Act} (h : ER G m N e a) (hm : m.le m') : ER G m' N e a :=
  ⟨h.size, fun i v hv => let ⟨rv, x, y⟩ := h.get i v hv; ⟨rv, tr_mono G hm v rv x, y⟩⟩

theorem ER.put {G : Gam} {m : Mp} {N : Nat} {e : Env} {a : Act} (h : ER G m N e a) {d : Option Nat} {v : CV} {rv : Value} (hv : tr G m v = some rv) (hd : ∀ k, d = some k → k < N) :
    ER G m N (Env.put e d v) (a.put d rv) := by
  cases d with
  | none => exact h
  | some d =>
    have hdN := hd d rfl
    have hs := h.size
    refine ⟨by simpa [Act.put] using h.size, fun i u hu => ?_⟩
    by_cases hi : i = d
    · subst hi
      simp [Env.put, Env.get] at hu; subst hu
      exact ⟨rv, hv, by show (a.tmps.setIfInBounds i rv)[i]? = _; exact Array.getElem?_setIfInBounds_self_of_lt (Nat.lt_of_lt_of_le hdN hs)⟩
    · simp [Env.put, Env.get, hi] at hu
      obtain ⟨ru, x, y⟩ := h.get i u hu
      exact ⟨ru, x, by simp [Act.put, Array.getElem?_setIfInBounds_ne (Ne.symm hi), y]⟩

theorem Env.get_only (ks : List Nat) (e : Env) (i : Nat) (v : CV) (h : Env.get (Env.only ks e) i = some v) : Env.get e i = some v := by
  induction ks with
  | nil => simp [Env.only, Env.get] at h
  | cons k ks ih =>
    simp only [Env.only] at h
    cases hk : Env.get e k with
    | none => rw [hk] at h; exact ih h
    | some u =>
      rw [hk] at h
      simp only [Env.get] at h
      by_cases hi : i = k
      · subst hi; rw [if_pos rfl] at h; exact hk.trans h
      · rw [if_neg hi] at h; exact ih h

theorem ER.only {G : Gam} {m : Mp} {N : Nat} {e : Env} {a : Act} (h : ER G m N e a) (ks : List Nat) : ER G m N (Env.only ks e) a :=
  ⟨h.size, fun i v hv => h.get i v (Env.get_only ks e i v hv)⟩

end Go.Cl
