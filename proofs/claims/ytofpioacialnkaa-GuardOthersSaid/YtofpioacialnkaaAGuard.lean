/-
  Layer 19, a guard: what its calls come to.
-/
import Derived.Test.YtofpioacialnkaaClMap
import Derived.Test.YtofpioacialnkaaS
namespace Go.Cl
open Go
set_option linter.unusedSimpArgs false
set_option linter.unusedVariables false

/-- numbers as values -/
def i64s (l : List Int) : List CV := l.map (.int .i64 ·)
@[simp] theorem i64s_length {l : List Int} : (i64s l).length = l.length := by simp [i64s]
theorem i64s_get {l : List Int} {i : Nat} : (i64s l)[i]? = (l[i]?).map (.int .i64 ·) := by simp [i64s]

def asI (f : Int → Option Int) : Int → Option CV := fun k => (f k).map (.int .i64 ·)
def updI (f : Int → Option Int) (k v : Int) : Int → Option Int := fun i => if i = k then some v else f i
theorem asI_upd {f : Int → Option Int} {k v : Int} : upd (asI f) k (.int .i64 v) = asI (updI f k v) := by
  funext i; unfold upd asI updI; by_cases h : i = k <;> simp [h]

/-- a guard at g: its tasks' periods, when each began last, the time -/
structure GuardAt (h : Heap) (g : Nat) (pv : CV) (mb : Nat) (P : List Int) (f : Int → Option Int) (now : Int) : Prop where
  obj : h[g]? = some (.arr [pv, .mp mb, .int .i64 now] .tight)
  per : Read h 1 pv (i64s P)
  map : MapI h .i64 mb (asI f)
  apart : ∀ b, pv.blk = some b → b ≠ g ∧ b ≠ mb

theorem GuardAt.ne {h : Heap} {g : Nat} {pv : CV} {mb : Nat} {P : List Int} {f : Int → Option Int} {now : Int} (a : GuardAt h g pv mb P f now) : g ≠ mb := by
  obtain ⟨es, c, h1, _⟩ := a.map
  exact ne_of_obj a.obj h1 (by simp)

theorem GuardAt.keep {S : Nat → Prop} {h h' : Heap} {g : Nat} {pv : CV} {mb : Nat} {P : List Int} {f : Int → Option Int} {now : Int} (a : GuardAt h g pv mb P f now) (k : Keep S h h') (hg : ¬ S g) (hm : ¬ S mb) (hp : ∀ b, pv.blk = some b → ¬ S b) : GuardAt h' g pv mb P f now :=
  ⟨k.at a.obj hg, a.per.keep k hp, a.map.keep k hm, a.apart⟩

/-- what 'Ask' answers -/
def askE (P : List Int) (f : Int → Option Int) (now task t : Int) (live : Bool) : Int :=
  if task < 0 ∨ (P.length : Int) ≤ task then 3
  else if t < now ∨ t < 0 ∨ 1099511627776 < t then 1
  else if (match f task with | some l => decide (IntKind.i64.wrap (t - l) < P.getD task.toNat 0) | none => false) = true then 12
  else if live then 10 else 0

variable {p : PP}

theorem ask_spec {h : Heap} {g : Nat} {pv : CV} {mb : Nat} {P : List Int} {f : Int → Option Int} {now : Int} (hp : p.Pg 6 = some S.f6) (hr : p.pr 6 = none) (a : GuardAt h g pv mb P f now) (task t : Int) (live : Bool) :
    WF p 6 [.ptr g 0, .int .i64 task, .int .i64 t, .bool live] h fun r h' => r = .int .i64 (askE P f now task t live) ∧
      (if askE P f now task t live = 0 then GuardAt h' g pv mb P (updI f task t) t else h' = h) ∧ Keep (fun b => b = g ∨ b = mb) h h' ∧ h'.length = h.length := by
  refine WF_of hp hr ?_
  show W p S.b6 _ _ (retQ [.t 8] _)
  unfold S.b6
  have a1 := a.obj
  have hlen : lenV h .sl pv = some (.int .i64 (P.length : Int)) := by have := a.per.len (by decide); simpa using this
  have l1 := ld a1
  by_cases h1 : task < 0
  · simp [h1, askE, Keep.refl]
  by_cases h2 : (P.length : Int) ≤ task
  · simp [h1, h2, l1, hlen, askE, Keep.refl]
  by_cases h3 : t < now
  · simp [h1, h2, h3, l1, hlen, askE, Keep.refl]
  by_cases h4 : t < 0
  · simp [h1, h2, h3, h4, l1, hlen, askE, Keep.refl]
  by_cases h5 : 1099511627776 < t
  · simp [h1, h2, h3, h4, h5, l1, hlen, askE, Keep.refl]
  obtain ⟨i, rfl⟩ := Int.eq_ofNat_of_zero_le (Int.not_lt.1 h1)
  have hi : i < P.length := by omega
  obtain ⟨b, o, c1, c2, c3⟩ := a.per.cell (i := i) (k := .i64) (by simp; omega) (by decide)
  have c4 := c3 0 (by decide)
  simp only [Nat.mul_one, Nat.add_zero, i64s_get, List.getElem?_eq_getElem hi, Option.map_some] at c4
  have hl := a.map.look true (.int .i64 0) i
  have hd : P.getD i 0 = P[i] := by simp [List.getD, hi]
  have hidx : ((i : Int)).toNat = i := by simp
  obtain ⟨w, s, h1', p1, p2, p3, p4⟩ := a.map.put (.int .i64 0) (.int .i64 t) i
  obtain ⟨h3', q1, q2, q3, q4⟩ := p4 h1' (Keep.refl _ _)
  have hne := a.ne
  have g1 : h1'[g]? = some (.arr [pv, .mp mb, .int .i64 now] .tight) := p2.at a1 hne
  have g3 : h3'[g]? = some (.arr [pv, .mp mb, .int .i64 now] .tight) := q3.at g1 hne
  have hkeep : Keep (fun b => b = g ∨ b = mb) h (h3'.set g (.arr [pv, .mp mb, .int .i64 t] .tight)) :=
    ((p2.trans q3).mono fun _ _ e => .inr e).trans (Keep.set _ _ (.inl rfl))
  have hfin : GuardAt (h3'.set g (.arr [pv, .mp mb, .int .i64 t] .tight)) g pv mb P (updI f i t) t := by
    refine ⟨get_set_self (lt_of_get g3), a.per.keep hkeep (fun b hb => ?_), ?_, a.apart⟩
    · have := a.apart b hb; simp [this.1, this.2]
    · rw [← asI_upd]; exact q2.keep (Keep.set (S := (· = g)) _ _ rfl) (fun e => hne e.symm)
  have s3 := stt g3
  cases hf : f i with
  | some l =>
    have hf' : asI f i = some (.int .i64 l) := by simp [asI, hf]
    rw [hf'] at hl
    by_cases h7 : IntKind.i64.wrap (t - l) < P[i]
    · simp [h1, h2, h3, h4, h5, l1, hlen, askE, Keep.refl, hl, c1, c4, hf, h7, hd, hidx, hi]
    · cases live
      · simp [h1, h2, h3, h4, h5, l1, hlen, hl, c1, c4, hf, h7, hd, hidx, hi, askE, p1, q1, s3, fits, CV.cells, CV.scalar, splice, hfin, hkeep, q4, p3]
      · simp [h1, h2, h3, h4, h5, l1, hlen, askE, Keep.refl, hl, c1, c4, hf, h7, hd, hidx, hi]
  | none =>
    have hf' : asI f i = none := by simp [asI, hf]
    rw [hf'] at hl
    cases live
    · simp [h1, h2, h3, h4, h5, l1, hlen, hl, c1, c4, hf, hd, hidx, hi, askE, p1, q1, s3, fits, CV.cells, CV.scalar, splice, hfin, hkeep, q4, p3]
    · simp [h1, h2, h3, h4, h5, l1, hlen, askE, Keep.refl, hl, c1, c4, hf, hd, hidx, hi]

theorem last_spec {h : Heap} {g : Nat} {pv : CV} {mb : Nat} {P : List Int} {f : Int → Option Int} {now : Int} (hp : p.Pg 8 = some S.f8) (hr : p.pr 8 = none) (a : GuardAt h g pv mb P f now) (k : Int) :
    WF p 8 [.ptr g 0, .int .i64 k] h fun r h' => h' = h ∧ r = match f k with | some l => .tup [.int .i64 l, .bool true] | none => .tup [.int .i64 0, .bool false] := by
  refine WF_of hp hr ?_
  show W p S.b8 _ _ (retQ [.t 4, .t 5] _)
  unfold S.b8
  have l1 := ld a.obj
  have hl := a.map.look true (.int .i64 0) k
  cases hf : f k with
  | some l =>
    have hf' : asI f k = some (.int .i64 l) := by simp [asI, hf]
    rw [hf'] at hl
    simp [l1, hl, result]
  | none =>
    have hf' : asI f k = none := by simp [asI, hf]
    rw [hf'] at hl
    simp [l1, hl, result]

end Go.Cl
