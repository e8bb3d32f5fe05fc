/-
  What an operation hangs on: its operands' slots; a read stays what it is when there is more memory. Runs of operations, one by one.
-/
import Derived.Test.YtiegjnklhafloaaDoorCl10
namespace Go.Cl
open Go
set_option linter.unusedSimpArgs false
set_option linter.unusedVariables false

def Opd.slots : Opd → List Nat
  | .t n => [n]
  | .c _ => []

def oslots : Option Opd → List Nat
  | none => []
  | some x => x.slots

def SOp.slots : SOp → List Nat
  | .move x | .neg x | .not x | .conv _ x | .same x | .toBytes x | .toStr x | .box x | .load _ x | .nilck x | .fld _ _ x | .fldAddr _ x | .len _ x | .ext _ x | .mkifc _ x | .tas _ x => x.slots
  | .pick c a b => c.slots ++ a.slots ++ b.slots
  | .bin _ x y | .eq _ _ x y | .store _ x y | .idxAddr _ x y | .idxArrAddr _ _ x y | .idxStr x y | .idxArr _ _ _ x y | .append _ x y | .mksl _ x y | .lookup _ _ _ x y | .mapent _ _ x y | .del _ x y | .slTail _ x y => x.slots ++ y.slots
  | .alloc _ | .mkmap => []
  | .build _ ps | .buildSl _ _ ps => ps.flatMap fun p => p.2.2.slots
  | .slStr x lo hi | .slSl _ x lo hi => x.slots ++ oslots lo ++ oslots hi
  | .mx xs | .mn xs | .call _ xs | .mkfn _ xs => xs.flatMap Opd.slots
  | .callv f xs => f.slots ++ xs.flatMap Opd.slots
  | .mapup _ x y z | .entst x y z => x.slots ++ y.slots ++ z.slots

def gslots : Option (Nat × Bool) → List Nat
  | none => []
  | some (t, _) => [t]

theorem Opd.ev_congr {x : Opd} {e e' : Env} (h : ∀ t ∈ x.slots, Env.get e t = Env.get e' t) : x.ev e = x.ev e' := by
  cases x with
  | t n => exact h n (by simp [Opd.slots])
  | c v => rfl

theorem optEv_congr {x : Option Opd} {e e' : Env} (h : ∀ t ∈ oslots x, Env.get e t = Env.get e' t) : optEv e x = optEv e' x := by
  cases x with
  | none => rfl
  | some x => simp only [optEv, Opd.ev_congr (x := x) h]

theorem evs_congr {xs : List Opd} {e e' : Env} (h : ∀ t ∈ xs.flatMap Opd.slots, Env.get e t = Env.get e' t) : evs e xs = evs e' xs := by
  induction xs with
  | nil => rfl
  | cons x xs ih =>
    simp only [evs]
    rw [Opd.ev_congr (x := x) fun t ht => h t (by simp [ht]), ih fun t ht => h t (by rw [List.flatMap_cons]; exact List.mem_append_right _ ht)]

theorem evParts_congr {ps : List (Nat × Nat × Opd)} {e e' : Env} (h : ∀ t ∈ ps.flatMap (fun p => p.2.2.slots), Env.get e t = Env.get e' t) : evParts e ps = evParts e' ps := by
  induction ps with
  | nil => rfl
  | cons x xs ih =>
    obtain ⟨o, s, x⟩ := x
    simp only [evParts]
    rw [Opd.ev_congr (x := x) fun t ht => h t (by simp [ht]), ih fun t ht => h t (by rw [List.flatMap_cons]; exact List.mem_append_right _ ht)]

theorem evOp_congr {call : CallF} {op : SOp} {e e' : Env} {h : Heap} (hs : ∀ t ∈ op.slots, Env.get e t = Env.get e' t) : evOp call op e h = evOp call op e' h := by
  have one : ∀ {x : Opd}, (∀ t ∈ x.slots, t ∈ op.slots) → x.ev e = x.ev e' := fun hx => Opd.ev_congr fun t ht => hs t (hx t ht)
  have two : ∀ {x : Option Opd}, (∀ t ∈ oslots x, t ∈ op.slots) → optEv e x = optEv e' x := fun hx => optEv_congr fun t ht => hs t (hx t ht)
  have three : ∀ {x : List Opd}, (∀ t ∈ x.flatMap Opd.slots, t ∈ op.slots) → evs e x = evs e' x := fun hx => evs_congr fun t ht => hs t (hx t ht)
  have four : ∀ {x : List (Nat × Nat × Opd)}, (∀ t ∈ x.flatMap (fun p => p.2.2.slots), t ∈ op.slots) → evParts e x = evParts e' x := fun hx => evParts_congr fun t ht => hs t (hx t ht)
  cases op <;> simp only [evOp]
  case move x => rw [one (x := x) (by simp [SOp.slots])]
  case pick c a b => rw [one (x := c) (by simp +contextual [SOp.slots]), one (x := a) (by simp +contextual [SOp.slots]), one (x := b) (by simp +contextual [SOp.slots])]
  case bin x y => rw [one (x := x) (by simp +contextual [SOp.slots]), one (x := y) (by simp +contextual [SOp.slots])]
  case eq x y => rw [one (x := x) (by simp +contextual [SOp.slots]), one (x := y) (by simp +contextual [SOp.slots])]
  case neg x => rw [one (x := x) (by simp [SOp.slots])]
  case not x => rw [one (x := x) (by simp [SOp.slots])]
  case conv k x => rw [one (x := x) (by simp [SOp.slots])]
  case same x => rw [one (x := x) (by simp [SOp.slots])]
  case toBytes x => rw [one (x := x) (by simp [SOp.slots])]
  case toStr x => rw [one (x := x) (by simp [SOp.slots])]
  case box x => rw [one (x := x) (by simp [SOp.slots])]
  case load n x => rw [one (x := x) (by simp [SOp.slots])]
  case store n x y => rw [one (x := x) (by simp +contextual [SOp.slots]), one (x := y) (by simp +contextual [SOp.slots])]
  case nilck x => rw [one (x := x) (by simp [SOp.slots])]
  case fld x => rw [one (x := x) (by simp [SOp.slots])]
  case fldAddr x => rw [one (x := x) (by simp [SOp.slots])]
  case idxAddr z x y => rw [one (x := x) (by simp +contextual [SOp.slots]), one (x := y) (by simp +contextual [SOp.slots])]
  case idxArrAddr z l x y => rw [one (x := x) (by simp +contextual [SOp.slots]), one (x := y) (by simp +contextual [SOp.slots])]
  case idxStr x y => rw [one (x := x) (by simp +contextual [SOp.slots]), one (x := y) (by simp +contextual [SOp.slots])]
  case idxArr z l n x y => rw [one (x := x) (by simp +contextual [SOp.slots]), one (x := y) (by simp +contextual [SOp.slots])]
  case build z ps => rw [four (x := ps) (by simp only [SOp.slots]; exact fun t h => h)]
  case buildSl n z ps => rw [four (x := ps) (by simp only [SOp.slots]; exact fun t h => h)]
  case slStr x lo hi => rw [one (x := x) (by simp +contextual [SOp.slots]), two (x := lo) (by simp +contextual [SOp.slots]), two (x := hi) (by simp +contextual [SOp.slots])]
  case slSl z x lo hi => rw [one (x := x) (by simp +contextual [SOp.slots]), two (x := lo) (by simp +contextual [SOp.slots]), two (x := hi) (by simp +contextual [SOp.slots])]
  case len k x => rw [one (x := x) (by simp [SOp.slots])]
  case mx xs => rw [three (x := xs) (by simp only [SOp.slots]; exact fun t h => h)]
  case mn xs => rw [three (x := xs) (by simp only [SOp.slots]; exact fun t h => h)]
  case append z x y => rw [one (x := x) (by simp +contextual [SOp.slots]), one (x := y) (by simp +contextual [SOp.slots])]
  case call f xs => rw [three (x := xs) (by simp only [SOp.slots]; exact fun t h => h)]
  case callv f xs => rw [one (x := f) (by simp +contextual [SOp.slots]), three (x := xs) (by simp only [SOp.slots]; exact fun t h => List.mem_append_right _ h)]
  case mkfn f xs => rw [three (x := xs) (by simp only [SOp.slots]; exact fun t h => h)]
  case mksl z x y => rw [one (x := x) (by simp +contextual [SOp.slots]), one (x := y) (by simp +contextual [SOp.slots])]
  case lookup ok bk z x y => rw [one (x := x) (by simp +contextual [SOp.slots]), one (x := y) (by simp +contextual [SOp.slots])]
  case mapup bk x y z => rw [one (x := x) (by simp +contextual [SOp.slots]), one (x := y) (by simp +contextual [SOp.slots]), one (x := z) (by simp +contextual [SOp.slots])]
  case mapent bk z x y => rw [one (x := x) (by simp +contextual [SOp.slots]), one (x := y) (by simp +contextual [SOp.slots])]
  case entst x y z => rw [one (x := x) (by simp +contextual [SOp.slots]), one (x := y) (by simp +contextual [SOp.slots]), one (x := z) (by simp +contextual [SOp.slots])]
  case del bk x y => rw [one (x := x) (by simp +contextual [SOp.slots]), one (x := y) (by simp +contextual [SOp.slots])]
  case ext i x => rw [one (x := x) (by simp [SOp.slots])]
  case mkifc t x => rw [one (x := x) (by simp [SOp.slots])]
  case tas t x => rw [one (x := x) (by simp [SOp.slots])]
  case slTail z x y => rw [one (x := x) (by simp +contextual [SOp.slots]), one (x := y) (by simp +contextual [SOp.slots])]

theorem wanted_congr {g : Option (Nat × Bool)} {e e' : Env} (h : ∀ t ∈ gslots g, Env.get e t = Env.get e' t) : wanted e g = wanted e' g := by
  cases g with
  | none => rfl
  | some p => obtain ⟨t, b⟩ := p; simp only [wanted]; rw [h t (by simp [gslots])]

theorem get_more {h : Heap} {b : Nat} {ob : Obj} (hb : h[b]? = some ob) (g : List Obj) : (h ++ g)[b]? = some ob := by
  have := (List.getElem?_eq_some_iff.1 hb).1
  rw [List.getElem?_append_left this]; exact hb

/-- a read stays what it is when there is more memory -/
theorem read_more {call : CallF} {op : SOp} {e : Env} {h : Heap} {v : CV} (hc : cls op = 0 ∨ cls op = 1) (hev : evOp call op e h = some (v, h)) (g : List Obj) : evOp call op e (h ++ g) = some (v, h ++ g) := by
  rcases hc with hc | hc
  · exact (evOp_pure hc hev).2 _
  · have LA : ∀ {b o : Nat} {n : Option Nat} {v : CV}, loadAt h b o n = some v → loadAt (h ++ g) b o n = some v := by
      intro b o n v hl
      cases n <;> simp only [loadAt] at hl ⊢
      all_goals
        cases hb : h[b]? with
        | none => simp [hb] at hl
        | some ob => rw [get_more hb g]; rw [hb] at hl; exact hl
    have CA : ∀ {b o n : Nat} {cs : List CV}, cellsAt h b o n = some cs → cellsAt (h ++ g) b o n = some cs := by
      intro b o n cs hl
      simp only [cellsAt] at hl ⊢
      cases hb : h[b]? with
      | none => simp [hb] at hl
      | some ob => rw [get_more hb g]; rw [hb] at hl; exact hl
    cases op <;> simp only [cls] at hc <;> (try (exact absurd hc (by decide))) <;> simp only [evOp] at hev ⊢
    case toStr x =>
      cases hx : x.ev e with
      | none => simp [hx] at hev
      | some xv =>
        cases xv <;> simp [hx] at hev ⊢
        · rename_i b o n c
          cases hcs : cellsAt h b o n with
          | none => simp [hcs] at hev
          | some cs => rw [CA hcs]; simp only [hcs] at hev; cases hq : ofBytes cs <;> simp [hq] at hev ⊢; exact hev
        · exact hev
    case load n x =>
      cases hx : x.ev e with
      | none => simp [hx] at hev
      | some xv =>
        cases xv <;> simp [hx] at hev ⊢
        obtain ⟨q, _⟩ := withH_some hev
        rw [LA q]; rfl
    case len k x =>
      cases k <;> cases hx : x.ev e with
      | none => simp [hx] at hev
      | some xv =>
        cases xv <;> simp [hx] at hev ⊢ <;> (try exact hev)
        all_goals
          rename_i b
          cases hb : h[b]? with
          | none => simp [hb] at hev
          | some ob => rw [get_more hb g]; rw [hb] at hev; cases ob <;> simp at hev ⊢; exact hev
    case lookup ok bk z x k =>
      cases hx : x.ev e with
      | none => simp [hx] at hev
      | some xv =>
        cases hk : k.ev e with
        | none => cases xv <;> simp [hx, hk] at hev
        | some kv =>
          cases xv <;> simp [hx, hk] at hev ⊢
          · rename_i b
            cases hb : h[b]? with
            | none => simp [hb] at hev
            | some ob =>
              rw [get_more hb g]; rw [hb] at hev
              cases ob <;> simp at hev ⊢
              rename_i es c
              cases hq : findKey bk kv es 0 with
              | none => simp [hq] at hev
              | some r => cases r <;> simp [hq] at hev ⊢ <;> exact hev
          · exact hev

theorem quiet_heap {call : CallF} {op : SOp} {e : Env} {h h' : Heap} {v : CV} (hc : cls op = 0 ∨ cls op = 1) (hev : evOp call op e h = some (v, h')) : h' = h := by
  rcases hc with hc | hc
  · exact (evOp_pure hc hev).1
  · cases op <;> simp [cls] at hc <;> simp only [evOp] at hev
    all_goals (repeat' (first | (exact (withH_some hev).2) | (simp at hev; done) | (simp at hev; exact hev.2.symm) | (split at hev)))

theorem make_heap {call : CallF} {op : SOp} {e : Env} {h h' : Heap} {v : CV} (hc : cls op = 2) (hev : evOp call op e h = some (v, h')) : ∃ g, h' = h ++ g ∧ g.length ≤ 1 := by
  cases op <;> simp only [cls] at hc <;> (try (exact absurd hc (by decide))) <;> simp only [evOp] at hev
  case slSl z x lo hi =>
    split at hev
    · rename_i xv l r _ _ _
      cases xv <;> simp [slSl] at hev
      · obtain ⟨_, hev⟩ := hev
        split at hev
        · split at hev
          · split at hev
            · simp at hev; exact ⟨_, hev.2.symm, by simp⟩
            · simp at hev; exact ⟨[], by simp [hev.2], by simp⟩
          · cases hev
        · cases hev
      · split at hev
        · split at hev
          · simp at hev; exact ⟨[], by simp [hev.2], by simp⟩
          · cases hev
        · cases hev
    · cases hev
  all_goals (repeat' (first | (simp at hev; done) | (simp at hev; exact ⟨_, hev.2.symm, by simp⟩) | (simp at hev; exact ⟨_, hev.2.2.symm, by simp⟩) | (split at hev)))

end Go.Cl
