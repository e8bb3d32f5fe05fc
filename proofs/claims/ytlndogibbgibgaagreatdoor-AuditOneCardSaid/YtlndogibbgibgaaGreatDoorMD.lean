/-
  Texts laid together: AGuard AGuardN AGraph AGraphP AGraphL.
-/
import Derived.Test.YtlndogibbgibgaaGreatDoorM3
import Derived.Test.YtlndogibbgibgaaGreatDoorS
import Derived.Test.YtlndogibbgibgaaGreatDoorM5
namespace Go.Cl
open Go
set_option linter.unusedSimpArgs false
set_option linter.unusedVariables false
def i64s (l : List Int) : List CV := l.map (.int .i64 ·)
@[simp] theorem i64s_length {l : List Int} : (i64s l).length = l.length := by simp [i64s]
theorem i64s_get {l : List Int} {i : Nat} : (i64s l)[i]? = (l[i]?).map (.int .i64 ·) := by simp [i64s]
def asI (f : Int → Option Int) : Int → Option CV := fun k => (f k).map (.int .i64 ·)
def updI (f : Int → Option Int) (k v : Int) : Int → Option Int := fun i => if i = k then some v else f i
theorem asI_upd {f : Int → Option Int} {k v : Int} : upd (asI f) k (.int .i64 v) = asI (updI f k v) := by
 funext i; unfold upd asI updI; by_cases h : i = k <;> simp [h]
structure GuardAt (h : Heap) (g : Nat) (pv : CV) (mb : Nat) (P : List Int) (f : Int → Option Int) (now : Int) : Prop where
 obj : h[g]? = some (.arr [pv, .mp mb, .int .i64 now] .tight)
 per : Read h 1 pv (i64s P)
 map : MapI h .i64 mb (asI f)
 apart : ∀ b, pv.blk = some b → b ≠ g ∧ b ≠ mb
theorem GuardAt.ne {h : Heap} {g : Nat} {pv : CV} {mb : Nat} {P : List Int} {f : Int → Option Int} {now : Int} (a : GuardAt h g pv mb P f now) : g ≠ mb := by
 obtain ⟨es, c, h1, _⟩ := a.map
 exact ne_of_obj a.obj h1 (by simp)
theorem GuardAt.keep {S : Nat → Prop} {h h' : Heap} {g : Nat} {pv : CV} {mb : Nat} {P : List Int} {f : Int → Option Int} {now : Int} (a : GuardAt h g pv mb P f now) (k : Keep S h h') (hg : ¬ S g) (hm : ¬ S mb) (hp : ∀ b, pv.blk = some b → ¬ S b) : GuardAt h' g pv mb P f now :=
 ⟨k.at a.obj hg, a.per.keep k hp, a.map.keep k hm, a.apart⟩
def askE (P : List Int) (f : Int → Option Int) (now task t : Int) (live : Bool) : Int :=
 if task < 0 ∨ (P.length : Int) ≤ task then 3
 else if t < now ∨ t < 0 ∨ 1099511627776 < t then 1
 else if (match f task with | some l => decide (IntKind.i64.wrap (t - l) < P.getD task.toNat 0) | none => false) = true then 12
 else if live then 10 else 0
variable {p : PP}
theorem ask_spec {h : Heap} {g : Nat} {pv : CV} {mb : Nat} {P : List Int} {f : Int → Option Int} {now : Int} (hp : p.Pg 6 = some S.f6) (hr : p.pr 6 = none) (a : GuardAt h g pv mb P f now) (task t : Int) (live : Bool) :
  WF p 6 [.ptr g 0, .int .i64 task, .int .i64 t, .bool live] h fun r h' => r = .int .i64 (askE P f now task t live) ∧
   (if askE P f now task t live = 0 then GuardAt h' g pv mb P (updI f task t) t else h' = h) ∧ Keep (fun b => b = g ∨ b = mb) h h' ∧ h'.length = h.length := by
 refine WF_of hp hr ?_
 show W p S.b6 _ _ (retQ [.t 8] _)
 unfold S.b6
 have a1 := a.obj
 have hlen : lenV h .sl pv = some (.int .i64 (P.length : Int)) := by have := a.per.len (by decide); simpa using this
 have l1 := ld a1
 by_cases h1 : task < 0
 ·simp [h1, askE, Keep.refl]
 by_cases h2 : (P.length : Int) ≤ task
 ·simp [h1, h2, l1, hlen, askE, Keep.refl]
 by_cases h3 : t < now
 ·simp [h1, h2, h3, l1, hlen, askE, Keep.refl]
 by_cases h4 : t < 0
 ·simp [h1, h2, h3, h4, l1, hlen, askE, Keep.refl]
 by_cases h5 : 1099511627776 < t
 ·simp [h1, h2, h3, h4, h5, l1, hlen, askE, Keep.refl]
 obtain ⟨i, rfl⟩ := Int.eq_ofNat_of_zero_le (Int.not_lt.1 h1)
 have hi : i < P.length := by omega
 obtain ⟨b, o, c1, c2, c3⟩ := a.per.cell (i := i) (k := .i64) (by simp; omega) (by decide)
 have c4 := c3 0 (by decide)
 simp only [Nat.mul_one, Nat.add_zero, i64s_get, List.getElem?_eq_getElem hi, Option.map_some] at c4
 have hl := a.map.look true (.int .i64 0) i
 have hd : P.getD i 0 = P[i] := by simp [List.getD, hi]
 have hidx : ((i : Int)).toNat = i := by simp
 obtain ⟨w, s, h1', p1, p2, p3, p4⟩ := a.map.put (.int .i64 0) (.int .i64 t) i
 obtain ⟨h3', q1, q2, q3, q4⟩ := p4 h1' (Keep.refl _ _)
 have hne := a.ne
 have g1 : h1'[g]? = some (.arr [pv, .mp mb, .int .i64 now] .tight) := p2.at a1 hne
 have g3 : h3'[g]? = some (.arr [pv, .mp mb, .int .i64 now] .tight) := q3.at g1 hne
 have hkeep : Keep (fun b => b = g ∨ b = mb) h (h3'.set g (.arr [pv, .mp mb, .int .i64 t] .tight)) :=
  ((p2.trans q3).mono fun _ _ e => .inr e).trans (Keep.set _ _ (.inl rfl))
 have hfin : GuardAt (h3'.set g (.arr [pv, .mp mb, .int .i64 t] .tight)) g pv mb P (updI f i t) t := by
  refine ⟨get_set_self (lt_of_get g3), a.per.keep hkeep (fun b hb => ?_), ?_, a.apart⟩
  ·have := a.apart b hb; simp [this.1, this.2]
  ·rw [← asI_upd]; exact q2.keep (Keep.set (S := (· = g)) _ _ rfl) (fun e => hne e.symm)
 have s3 := stt g3
 cases hf : f i with
 | some l =>
   have hf' : asI f i = some (.int .i64 l) := by simp [asI, hf]
   rw [hf'] at hl
   by_cases h7 : IntKind.i64.wrap (t - l) < P[i]
   ·simp [h1, h2, h3, h4, h5, l1, hlen, askE, Keep.refl, hl, c1, c4, hf, h7, hd, hidx, hi]
   ·cases live
    ·simp [h1, h2, h3, h4, h5, l1, hlen, hl, c1, c4, hf, h7, hd, hidx, hi, askE, p1, q1, s3, fits, CV.cells, CV.scalar, splice, hfin, hkeep, q4, p3]
    ·simp [h1, h2, h3, h4, h5, l1, hlen, askE, Keep.refl, hl, c1, c4, hf, h7, hd, hidx, hi]
 | none =>
   have hf' : asI f i = none := by simp [asI, hf]
   rw [hf'] at hl
   cases live
   ·simp [h1, h2, h3, h4, h5, l1, hlen, hl, c1, c4, hf, hd, hidx, hi, askE, p1, q1, s3, fits, CV.cells, CV.scalar, splice, hfin, hkeep, q4, p3]
   ·simp [h1, h2, h3, h4, h5, l1, hlen, askE, Keep.refl, hl, c1, c4, hf, hd, hidx, hi]
def TasksAt (h : Heap) (tv : CV) (ps : List Int) : Prop := ∃ cs, Read h 5 tv cs ∧ cs.length = 5 * ps.length ∧ ∀ i, (hi : i < ps.length) → cs[i * 5 + 1]? = some (.int .i64 ps[i])
theorem new_spec {h : Heap} {x y tv : CV} {ps : List Int} (hp : p.Pg 5 = some S.f5) (hr : p.pr 5 = none) (ht : TasksAt h tv ps) (hbig : ps.length ≤ big) :
  WF p 5 [.agg [x, y, tv]] h fun r h' => ∃ g pv mb, r = .ptr g 0 ∧ GuardAt h' g pv mb ps (fun _ => none) 0 ∧ Keep (fun _ => False) h h' ∧ h.length ≤ g ∧ h.length ≤ mb ∧ (∀ b, pv.blk = some b → h.length ≤ b) := by
 refine WF_of hp hr ?_
 show W p S.b5 _ _ (retQ [.t 2] _)
 unfold S.b5
 obtain ⟨cs, t1, t2, t3⟩ := ht
 simp [CV.cells, fillC, splice]
 refine W_loop (fun m e h' => ∃ k pv, k ≤ ps.length ∧ m = ps.length - k ∧ e = [(1, .ptr h.length 0), (3, .ptr (h.length + 1 + 1) 0)] ∧ Keep (fun _ => False) h h' ∧
  h'[h.length]? = some (.arr [x, y, tv] .tight) ∧ h'[h.length + 1 + 1]? = some (.arr [pv, .mp (h.length + 1), .int .i64 0] .tight) ∧ h'[h.length + 1]? = some (.map [] 0) ∧
  Grown h' 1 pv (i64s (ps.take k)) ∧ (∀ b, pv.blk = some b → h.length ≤ b)) ?_ ps.length ⟨0, .nils, by omega, by omega, rfl, ?_, ?_, ?_, ?_, .inl ⟨rfl, rfl⟩, by simp [CV.blk]⟩
 ·rintro m e h' ⟨k, pv, hk, rfl, rfl, kp, b1, b2, b3, gr, hb⟩
  have l1 := ld b1
  have l2 := ld b2
  have hpl : lenV h' .sl pv = some (.int .i64 (k : Int)) := by
   have := gr.read.len (by decide); simpa [Nat.min_eq_left hk] using this
  have tr := t1.keep kp (fun _ _ => id)
  have htl : lenV h' .sl tv = some (.int .i64 (ps.length : Int)) := by
   have := tr.len (by decide); rw [t2] at this; simpa using this
  by_cases hkn : k = ps.length
  ·subst hkn
   simp [l1, l2, hpl, htl]
   refine ⟨pv, h.length + 1, ⟨b2, ?_, ⟨[], 0, b3, ⟨by simp, by simp, by simp⟩, fun _ => rfl⟩, ?_⟩, kp, by omega, by omega, hb⟩
   ·have := gr.read; rwa [List.take_length] at this
   ·rcases gr with ⟨rfl, _⟩ | ⟨b, n, rfl, _, _, q⟩
    ·intro b hb'; simp [CV.blk] at hb'
    ·intro b' hb'
     simp [CV.blk] at hb'; subst hb'
     exact ⟨ne_of_obj q b2 (by simp), ne_of_obj q b3 (by simp)⟩
  ·have hlt : k < ps.length := by omega
   have hkn' : ¬ (k : Int) = (ps.length : Int) := by omega
   obtain ⟨b, o, c1, c2, c3⟩ := tr.cell (i := k) (k := .i64) (by rw [t2]; omega) (by decide)
   have c4 := c3 1 (by decide)
   rw [t3 k hlt] at c4
   have kp2 : Keep (fun _ => False) h' (h' ++ [.arr [.int .i64 ps[k]] .tight]) := Keep.app _ _ _
   have sp : spread (h' ++ [.arr [.int .i64 ps[k]] .tight]) 1 (.sl h'.length 0 1 1) = some (1, [.int .i64 ps[k]]) := by simp [spread, cellsAt]
   have gr2 := gr.keep kp2 (fun _ _ => id)
   obtain ⟨h3, a1, a2, a3, a4⟩ := append_grown (ys := [.int .i64 ps[k]]) (k := 1) gr2 (by decide) rfl rfl (by simp; omega) (by decide) (by decide)
   have hpv : ∀ b, pv.blk = some b → b ≠ h.length + 1 + 1 ∧ b ≠ h.length + 1 ∧ b ≠ h.length := by
    rcases gr with ⟨rfl, _⟩ | ⟨b, n, rfl, _, _, q⟩
    ·intro b hb'; simp [CV.blk] at hb'
    ·intro b' hb'
     simp [CV.blk] at hb'; subst hb'
     exact ⟨ne_of_obj q b2 (by simp), ne_of_obj q b3 (by simp), ne_of_obj q b1 (by simp)⟩
   have d1 := a4.at (kp2.at b1 id) (fun e => (hpv _ e).2.2 rfl)
   have d2 := a4.at (kp2.at b2 id) (fun e => (hpv _ e).1 rfl)
   have d3 := a4.at (kp2.at b3 id) (fun e => (hpv _ e).2.1 rfl)
   have s2 := stt d2
   simp [l1, l2, hpl, htl, hkn', c1, c4, fillC, CV.cells, splice, sp, a1, s2, fits, CV.scalar]
   refine ⟨ps.length - (k + 1), by omega, k + 1, by omega, rfl, ?_, ?_, ⟨_, get_set_self (lt_of_get d2), ?_, ?_, ?_⟩⟩
   ·refine ((kp.trans kp2).then a4 fun i hi e => ?_).then (Keep.set (S := (· = h.length + 1 + 1)) _ _ rfl) fun i hi e => ?_
    ·have := hb i e; omega
    ·omega
   ·rw [get_set_ne (by omega)]; exact d1
   ·exact d3
   ·have e : i64s (List.take (k + 1) ps) = i64s (List.take k ps) ++ [.int .i64 ps[k]] := by unfold i64s; rw [← List.take_append_getElem hlt, List.map_append]; rfl
    rw [e]
    have hlen : h.length + 1 + 1 < h'.length := lt_of_get b2
    have := a2.keep (Keep.set (S := (· = h.length + 1 + 1)) h3 (.arr [.sl (h'.length + 1) 0 ((i64s (List.take k ps)).length / 1 + 1) ((i64s (List.take k ps)).length / 1 + 1), .mp (h.length + 1), .int .i64 0] .tight) rfl) (fun b e => by simp [CV.blk] at e; omega)
    simpa using this
   ·intro b e
    have := kp.len
    simp [CV.blk] at e; omega
 ·exact Keep.app _ _ _
 ·simp
 ·rw [show h ++ [Obj.arr [x, y, tv] .tight, Obj.map [] 0, Obj.arr [.nils, .mp (h.length + 1), .int .i64 0] .tight] = (h ++ [Obj.arr [x, y, tv] .tight, Obj.map [] 0]) ++ [Obj.arr [.nils, .mp (h.length + 1), .int .i64 0] .tight] by simp]
  rw [show h.length + 1 + 1 = (h ++ [Obj.arr [x, y, tv] .tight, Obj.map [] 0]).length by simp]
  simp
 ·simp
def Own (h : Heap) (v : CV) (l : List CV) : Prop := (v = .nils ∧ l = []) ∨ ∃ b st, v = .sl b 0 l.length l.length ∧ h[b]? = some (.arr l st) ∧ st ≠ .ro
theorem Own.read {h : Heap} {v : CV} {l : List CV} (o : Own h v l) : Read h 1 v l := by
 rcases o with o | ⟨b, st, rfl, h1, _⟩
 ·exact .inl o
 ·exact .inr ⟨b, 0, l.length, l.length, l, st, rfl, by simp, h1, by simp, by simp⟩
def pairs (E : List (Int × Int)) : List CV := E.flatMap fun e => [.int .i64 e.1, .int .i64 e.2]
theorem pairs_length {E : List (Int × Int)} : (pairs E).length = E.length * 2 := by
 induction E with
 | nil => rfl
 | cons e r ih => simp only [pairs, List.flatMap_cons, List.length_append] at ih ⊢; simp [ih]; omega
theorem pairs_row {E : List (Int × Int)} : ∀ {i : Nat} (hi : i < E.length), ((pairs E).drop (i * 2)).take 2 = [.int .i64 E[i].1, .int .i64 E[i].2] := by
 induction E with
 | nil => intro i hi; simp at hi
 | cons e r ih =>
   intro i hi
   cases i with
   | zero => simp [pairs]
   | succ i =>
     have := ih (i := i) (by simpa using hi)
     simpa [pairs, Nat.succ_mul] using this
theorem spread_read {h : Heap} {v : CV} {l : List CV} (r : Read h 1 v l) : spread h 1 v = some (l.length, l) := by
 rcases r with ⟨rfl, rfl⟩ | ⟨b, o, n, c, cs, st, rfl, h1, h2, h3, h4⟩
 ·rfl
 ·simp only [Nat.mul_one] at h1 h3 h4
  simp only [spread, cellsAt, h2, Nat.mul_one, h3, if_true, ← h4, h1]
theorem clone_spec {h : Heap} {v : CV} {l : List Int} (hp : p.Pg 55 = some S.f55) (hr : p.pr 55 = none) (r : Read h 1 v (ints .i64 l)) (hb : l.length ≤ big) :
  WF p 55 [v] h fun r h' => Own h' r (ints .i64 l) ∧ Keep (fun _ => False) h h' ∧ ∀ b, r.blk = some b → h.length ≤ b := by
 refine WF_of hp hr ?_
 show W p S.b55 _ _ (retQ [.t 2] _)
 unfold S.b55
 have hs : (ints .i64 l).all CV.scalar = true := by simp [ints, CV.scalar]
 rcases r with ⟨rfl, h0⟩ | ⟨b, o, n, c, cs, st, rfl, h1, h2, h3, h4⟩
 ·have : l = [] := by simpa [ints] using h0
  subst this
  simp [eqv, Own, ints, Keep.refl, CV.blk]
 ·have r' : Read (h ++ [.arr [] .tight]) 1 (.sl b o n c) (ints .i64 l) := .inr ⟨b, o, n, c, cs, st, rfl, h1, get_app h2, h3, h4⟩
  have sp := spread_read r'
  simp only [ints_length] at sp
  simp [eqv, fillC, sp]
  by_cases hl : l.length = 0
  ·have : l = [] := List.length_eq_zero_iff.1 hl
   subst this
   simp [appendTo, ints]
   exact ⟨.inr ⟨h.length, .tight, rfl, by simp, by simp⟩, Keep.app _ _ _, by simp [CV.blk]⟩
  ·have hbig : ¬ (l.length > big ∨ (ints .i64 l).all CV.scalar = false) := by rw [hs]; simp; exact hb
   simp only [appendTo]
   rw [if_neg hbig]
   simp [hl, kill]
   refine ⟨.inr ⟨h.length + 1, .loose 1, by simp, ?_, by simp⟩, Keep.app _ _ _, by simp [CV.blk]⟩
   simp
theorem in_spec {h : Heap} {a b n : Int} (hp : p.Pg 56 = some S.f56) (hr : p.pr 56 = none) :
  WF p 56 [.agg [.int .i64 a, .int .i64 b], .int .i64 n] h fun r h' => r = .bool (decide (0 ≤ a ∧ a < n ∧ 0 ≤ b ∧ b < n)) ∧ Keep (fun _ => False) h h' := by
 refine WF_of hp hr ?_
 show W p S.b56 _ _ (retQ [.t 4] _)
 unfold S.b56
 have hb : (h ++ [Obj.arr [.int .i64 a, .int .i64 b] .tight])[h.length]? = some (.arr [.int .i64 a, .int .i64 b] .tight) := get_new
 have l := ld hb
 by_cases h1 : 0 ≤ a
 ·by_cases h2 : a < n
  ·by_cases h3 : 0 ≤ b
   ·simp [CV.cells, l, h1, h2, h3, Keep.app]
   ·simp [CV.cells, l, h1, h2, h3, Keep.app]
  ·simp [CV.cells, l, h1, h2, Keep.app]
 ·simp [CV.cells, l, h1, Keep.app]
theorem W_loop2 {live : List Nat} {b : SCode} {Q : Ex → Env → Heap → Prop} (I : Nat → Env → Heap → Prop)
  (step : ∀ m e h, I m e h → W p b e h fun x e' h' => match x with | .normal => ∃ m', m' < m ∧ I m' (Env.only live e') h' | x => Q x e' h')
  (m : Nat) {e : Env} {h : Heap} (hI : I m (Env.only live e) h) : W p (.loop live b) e h Q :=
 W_loop (fun m e h => I m (Env.only live e) h) (fun m e h hi => (step m _ h hi)) m hI
theorem Own.elem {h : Heap} {v : CV} {l : List CV} (o : Own h v l) {i : Nat} (hi : i < l.length) {k : IntKind} : ∃ b, v.blk = some b ∧ idxAddrV 1 v (.int k (i : Int)) = some (.ptr b i) ∧ loadAt h b i none = some l[i] ∧
  ∀ val, val.scalar = true → ∃ h', storeAt h b i [val] = some h' ∧ Own h' v (l.set i val) ∧ Keep (fun b => v.blk = some b) h h' ∧ h'.length = h.length := by
 rcases o with ⟨rfl, rfl⟩ | ⟨b, st, rfl, h1, h2⟩
 ·simp at hi
 ·refine ⟨b, rfl, ?_, ?_, fun val hv => ⟨h.set b (.arr (l.set i val) st), ?_, .inr ⟨b, st, by simp, get_set_self (lt_of_get h1), h2⟩, Keep.set _ _ rfl, by simp⟩⟩
  ·rw [idxAddrV_sl, if_pos ⟨by omega, by omega⟩]; simp
  ·rw [ld h1, List.getElem?_eq_getElem hi]
  ·simp only [storeAt, h1]
   rw [if_pos ⟨h2, by simp; omega, by simp [hv]⟩, splice_set hi]
theorem Own.keep {S : Nat → Prop} {h h' : Heap} {v : CV} {l : List CV} (o : Own h v l) (k : Keep S h h') (hS : ∀ b, v.blk = some b → ¬ S b) : Own h' v l := by
 rcases o with o | ⟨b, st, rfl, h1, h2⟩
 ·exact .inl o
 ·exact .inr ⟨b, st, rfl, k.at h1 (hS b rfl), h2⟩
def lift (base least : List Int) : List Int := base.mapIdx fun i x => if i < least.length then max x (least.getD i 0) else x
@[simp] theorem lift_length {a b : List Int} : (lift a b).length = a.length := by simp [lift]
@[simp] theorem lift_nil {a : List Int} : lift a [] = a := by
 apply List.ext_getElem (by simp)
 intro i h1 h2; simp [lift]
def PInv1 (v1 v2 out : CV) (base least : List Int) (hC : Heap) (m : Nat) (e : Env) (h' : Heap) : Prop :=
 ∃ (i : Nat) (L : List Int), i ≤ base.length ∧ m = base.length - i ∧ e = [(1, v1), (2, v2), (7, out), (15, .int .i64 base.length), (16, .int .i64 i)] ∧ Keep (fun b => out.blk = some b) hC h' ∧ Own h' out (ints .i64 L) ∧
  L.length = base.length ∧ ∀ j, j < base.length → L[j]? = if j < i then (lift base least)[j]? else base[j]?
def PInv2 (v2 out : CV) (B : List Int) (E : List (Int × Int)) (hC : Heap) (m : Nat) (e : Env) (h' : Heap) : Prop :=
 ∃ (L : List Int), m = far (top B) L ∧ e = [(2, v2), (7, out)] ∧ Keep (fun b => out.blk = some b) hC h' ∧ Own h' out (ints .i64 L) ∧ OnWay B E L
def PInv4 (v2 out : CV) (B : List Int) (E : List (Int × Int)) (hC : Heap) (L0 : List Int) (m : Nat) (e : Env) (h' : Heap) : Prop :=
 ∃ (j : Nat) (L : List Int) (more : Bool), j ≤ E.length ∧ m = E.length - j ∧ e = [(2, v2), (7, out), (9, .bool more), (36, v2), (37, .int .i64 E.length), (38, .int .i64 j)] ∧
  Keep (fun b => out.blk = some b) hC h' ∧ Own h' out (ints .i64 L) ∧ OnWay B E L ∧ (more = true → far (top B) L < far (top B) L0) ∧ (more = false → L = L0 ∧ ∀ x ∈ E.take j, okE L.length x → getI L x.1 ≤ getI L x.2)
theorem prios_spec {h : Heap} {v0 v1 v2 : CV} {base least : List Int} {E : List (Int × Int)} (h17 : p.Pg 17 = some S.f17) (q17 : p.pr 17 = none) (h55 : p.Pg 55 = some S.f55) (q55 : p.pr 55 = none) (h56 : p.Pg 56 = some S.f56) (q56 : p.pr 56 = none)
  (r0 : Read h 1 v0 (ints .i64 base)) (r1 : Read h 1 v1 (ints .i64 least)) (r2 : Read h 2 v2 (pairs E)) (hb : base.length ≤ big) (hE : E.length ≤ big) :
  WF p 17 [v0, v1, v2] h fun r h' => ∃ L, Own h' r (ints .i64 L) ∧ IsPrios (lift base least) E L ∧ Keep (fun _ => False) h h' ∧ ∀ b, r.blk = some b → h.length ≤ b := by
 refine WF_of h17 q17 ?_
 show W p S.b17 _ _ (retQ [.t 6] _)
 unfold S.b17
 simp
 refine (clone_spec h55 q55 r0 hb).mono ?_
 rintro out hC ⟨o1, k1, hout⟩
 have n1 := readI_len o1.read
 simp [n1]
 have ho1 : ∀ b, out.blk = some b → ¬ b < h.length := fun b e => by have := hout b e; omega
 have hbb : (base.length : Int) ≤ 4294967296 := by simp [big] at hb; omega
 have hEE : (E.length : Int) ≤ 4294967296 := by simp [big] at hE; omega
 refine W_loop (PInv1 v1 v2 out base least hC) ?_ base.length ⟨0, base, by omega, by omega, rfl, Keep.refl _ _, o1, rfl, fun j hj => by simp⟩
 rintro m e h' ⟨i, L, hi, rfl, rfl, k2, o2, hL, hLi⟩
 have kk : Keep (fun _ => False) h h' := k1.then k2 fun j hj e => ho1 j e hj
 have nl := readI_len (r1.keep kk fun _ _ => id)
 by_cases hib : i = base.length
 ·subst hib
  have hLB : L = lift base least := by
   apply List.ext_getElem? 
   intro j
   by_cases hj : j < base.length
   ·rw [hLi j hj, if_pos hj]
   ·rw [List.getElem?_eq_none (by omega), List.getElem?_eq_none (by simp; omega)]
  subst hLB
  simp
  generalize hB : lift base least = B at *
  refine W_loop2 (PInv2 v2 out B E hC) ?_ (far (top B) B) ⟨B, rfl, by simp, k2, o2, OnWay.start B E⟩
  rintro m e h2 ⟨L0, rfl, rfl, k3, o3, w3⟩
  have nE : lenV h2 .sl v2 = some (.int .i64 (E.length : Int)) := by
   have := (r2.keep (k1.then k3 fun j hj e => ho1 j e hj) fun _ _ => id).len (by decide)
   rw [pairs_length] at this; simpa using this
  simp [nE]
  refine W_loop (PInv4 v2 out B E hC L0) ?_ E.length ⟨0, L0, false, by omega, by omega, rfl, k3, o3, w3, by simp, fun _ => ⟨rfl, by simp⟩⟩
  rintro m e h3 ⟨j, L, more, hj, rfl, rfl, k4, o4, w4, hm1, hm2⟩
  by_cases hjE : j = E.length
  ·subst hjE
   cases more with
   | true =>
     simp
     exact ⟨far (top B) L, hm1 rfl, L, rfl, by simp, k4, o4, w4⟩
   | false =>
     obtain ⟨rfl, hcl⟩ := hm2 rfl
     simp
     exact ⟨L, o4, ⟨w4, fun x hx => hcl x (by simpa using hx)⟩, k1.then k4 fun j hj e => ho1 j e hj, hout⟩
  ·have hjlt : j < E.length := by omega
   have hjlt' : (j : Int) < E.length := by omega
   obtain ⟨a, b, hab⟩ : ∃ a b, E[j] = (a, b) := ⟨E[j].1, E[j].2, rfl⟩
   obtain ⟨be, oe, y1, y2, y3⟩ := (r2.keep (k1.then k4 fun j hj e => ho1 j e hj) fun _ _ => id).row (i := j) (k := .i64) (by rw [pairs_length]; omega) (by decide)
   rw [pairs_row hjlt, hab] at y3
   have hst : storeAt (h3 ++ [.arr [.int .i64 0, .int .i64 0] .tight]) h3.length 0 [.int .i64 a, .int .i64 b] = some (h3 ++ [.arr [.int .i64 a, .int .i64 b] .tight]) := by
    simp [storeAt, splice, CV.scalar]
   have hw : IntKind.i64.wrap ((j : Int) + 1) = ((j + 1 : Nat) : Int) := by rw [w64 (by omega) (by omega)]; omega
   have hmem : (a, b) ∈ E := by rw [← hab]; exact List.getElem_mem hjlt
   have kap : Keep (fun _ => False) h3 (h3 ++ [.arr [.int .i64 a, .int .i64 b] .tight]) := Keep.app _ _ _
   have gl : loadAt (h3 ++ [.arr [.int .i64 a, .int .i64 b] .tight]) h3.length 0 (some 2) = some (.agg [.int .i64 a, .int .i64 b]) := by simp [loadAt]
   have n4 := readI_len (o4.keep kap fun _ _ => id).read
   simp [hjlt', y1, y3, CV.cells, fits, hst, gl, n4]
   refine (in_spec h56 q56).mono ?_
   rintro r h5 ⟨rfl, k5⟩
   have o5 := (o4.keep kap fun _ _ => id).keep k5 fun _ _ => id
   have e5 : h5[h3.length]? = some (.arr [.int .i64 a, .int .i64 b] .tight) := k5.at get_new id
   have l5 := ld e5
   have kk5 : Keep (fun b => out.blk = some b) hC h5 := (k4.then kap fun _ _ e => e.elim).then k5 fun _ _ e => e.elim
   have htake : E.take (j + 1) = E.take j ++ [(a, b)] := by rw [← hab]; exact (List.take_append_getElem hjlt).symm
   have stay : ∀ (hno : okE L.length (a, b) → getI L a ≤ getI L b), ∃ m', m' < E.length - j ∧ PInv4 v2 out B E hC L0 m' [(2, v2), (7, out), (9, .bool more), (36, v2), (37, .int .i64 E.length), (38, .int .i64 ((j + 1 : Nat) : Int))] h5 := by
    intro hno
    refine ⟨E.length - (j + 1), by omega, j + 1, L, more, by omega, rfl, rfl, kk5, o5, w4, hm1, fun hmf => ?_⟩
    obtain ⟨q1, q2⟩ := hm2 hmf
    refine ⟨q1, fun x hx hox => ?_⟩
    rw [htake] at hx
    rcases List.mem_append.1 hx with hx | hx
    ·exact q2 x hx hox
    ·simp at hx; subst hx; exact hno hox
   by_cases hok : okE L.length (a, b)
   ·have hok' := hok
    obtain ⟨z1, z2, z3, z4⟩ := hok'
    simp only at z1 z2 z3 z4
    obtain ⟨an, rfl⟩ := Int.eq_ofNat_of_zero_le z1
    obtain ⟨bn, rfl⟩ := Int.eq_ofNat_of_zero_le z3
    have han : an < L.length := by omega
    have hbn : bn < L.length := by omega
    obtain ⟨b1, u1, u2, u3, u4⟩ := o5.elem (i := an) (k := .i64) (by simpa using han)
    obtain ⟨b2, w1, w2, w3, wp4⟩ := o5.elem (i := bn) (k := .i64) (by simpa using hbn)
    simp only [ints, List.getElem_map] at u3 w3
    have ga : getI L an = L[an] := by simp [getI, List.getD, han]
    have gb : getI L bn = L[bn] := by simp [getI, List.getD, hbn]
    by_cases hlt : L[bn] < L[an]
    ·obtain ⟨h6, s1, s2, s3, s4⟩ := wp4 (.int .i64 L[an]) rfl
     simp [z2, z4, l5, u2, u3, w2, w3, hlt, s1, CV.cells, fits, hw]
     have wl := w4.lend hmem hok (by simp only [ga, gb]; exact hlt)
     have hset : (ints .i64 L).set bn (.int .i64 L[an]) = ints .i64 (L.set bn L[an]) := by unfold ints; rw [List.map_set]
     rw [hset] at s2
     simp only [ga, Int.toNat_natCast] at wl
     have hfar : far (top B) (L.set bn L[an]) < far (top B) L := by
      refine far_set hbn (by simpa [List.getD, hbn] using hlt) ?_
      obtain ⟨q, hq, hqe⟩ := w4.src an han
      have := le_top hq
      rw [← hqe] at this
      simpa [List.getD, han] using this
     refine ⟨E.length - (j + 1), by omega, j + 1, L.set bn L[an], true, by omega, rfl, rfl, kk5.trans s3, s2, wl, fun _ => ?_, by simp⟩
     cases more with
     | true => exact Nat.lt_trans hfar (hm1 rfl)
     | false => rw [← (hm2 rfl).1]; exact hfar
    ·simp [z2, z4, l5, u2, u3, w2, w3, hlt, hw]
     exact stay fun _ => by simp only [ga, gb]; omega
   ·have hdec : decide (0 ≤ a ∧ a < (L.length : Int) ∧ 0 ≤ b ∧ b < (L.length : Int)) = false := decide_eq_false hok
    rw [hdec]
    simp [hw]
    exact stay fun h => absurd h hok
 ·have hlt : i < base.length := by omega
  have hlt' : (i : Int) < base.length := by omega
  have hw : IntKind.i64.wrap ((i : Int) + 1) = ((i + 1 : Nat) : Int) := by rw [w64 (by omega) (by omega)]; omega
  have hiL : i < L.length := by omega
  obtain ⟨b2, w1, w2, w3, w4⟩ := o2.elem (i := i) (k := .i64) (by simpa using hiL)
  simp only [ints, List.getElem_map] at w3
  have hLb : L[i] = base[i] := by
   have := hLi i hlt
   simpa [List.getElem?_eq_getElem hiL, List.getElem?_eq_getElem hlt] using this
  have hlift : (lift base least)[i]? = some (if i < least.length then max base[i] (least.getD i 0) else base[i]) := by simp [lift, hlt]
  by_cases hil : i < least.length
  ·have hil' : (i : Int) < least.length := by omega
   obtain ⟨bl, ol, x1, x2, x3⟩ := readI_idx (k' := .i64) (r1.keep kk fun _ _ => id) hil
   obtain ⟨mv, hmv⟩ : ∃ mv, mv = max base[i] (least.getD i 0) := ⟨_, rfl⟩
   have hmx : mxL [.int .i64 L[i], .int .i64 least[i]] = some (.int .i64 mv) := by
    have : least.getD i 0 = least[i] := by simp [List.getD, hil]
    rw [hmv, this, hLb]
    simp [mxL, mxR]
    split <;> omega
   obtain ⟨h6, s1, s2, s3, s4⟩ := w4 (.int .i64 mv) rfl
   simp [hlt', nl, hil', w2, w3, x1, x3, hmx, s1, CV.cells, fits, hw]
   have hset : (ints .i64 L).set i (.int .i64 mv) = ints .i64 (L.set i mv) := by unfold ints; rw [List.map_set]
   rw [hset] at s2
   refine ⟨base.length - (i + 1), by omega, i + 1, L.set i mv, by omega, rfl, rfl, k2.trans s3, s2, by simpa using hL, fun j hj => ?_⟩
   by_cases hji : i = j
   ·subst hji
    rw [List.getElem?_set_self hiL, if_pos (by omega), hlift, if_pos hil, hmv]
   ·rw [List.getElem?_set_ne hji, hLi j hj]
    by_cases hj2 : j < i
    ·rw [if_pos hj2, if_pos (by omega)]
    ·rw [if_neg hj2, if_neg (by omega)]
  ·have hil' : ¬ (i : Int) < least.length := by omega
   simp [hlt', nl, hil', hw]
   refine ⟨base.length - (i + 1), by omega, i + 1, L, by omega, rfl, rfl, k2, o2, hL, fun j hj => ?_⟩
   by_cases hji : i = j
   ·subst hji
    rw [if_pos (by omega), hlift, if_neg hil, hLi i hlt, if_neg (by omega), List.getElem?_eq_getElem hlt]
   ·rw [hLi j hj]
    by_cases hj2 : j < i
    ·rw [if_pos hj2, if_pos (by omega)]
    ·rw [if_neg hj2, if_neg (by omega)]
end Go.Cl
