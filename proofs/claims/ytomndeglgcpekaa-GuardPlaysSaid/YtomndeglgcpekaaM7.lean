/-
  Texts laid together: AFront AGuard AGuardN AGuardP AGuardT.
-/
import Derived.Test.YtomndeglgcpekaaM3
import Derived.Test.YtomndeglgcpekaaS
import Derived.Test.YtomndeglgcpekaaM5
import Derived.Test.YtomndeglgcpekaaM6
import Derived.Test.YtomndeglgcpekaaM4

namespace Go.Cl
open Go
set_option linter.unusedSimpArgs false
set_option linter.unusedVariables false

variable {p : PP}

/-- a code's first statements; the others -/
def front : Nat → SCode → SCode
  | n + 1, .seq a b => .seq a (front n b)
  | _, _ => .skip
def back : Nat → SCode → SCode
  | n + 1, .seq _ b => back n b
  | _, c => c

/-- what comes in between -/
def midQ (M : Env → Heap → Prop) (Q : Ex → Env → Heap → Prop) : Ex → Env → Heap → Prop := fun x e' h' => match x with | .normal => M e' h' | x => Q x e' h'
@[simp] theorem midQ_n {M : Env → Heap → Prop} {Q : Ex → Env → Heap → Prop} {e : Env} {h : Heap} : midQ M Q .normal e h = M e h := id rfl
@[simp] theorem midQ_r {M : Env → Heap → Prop} {Q : Ex → Env → Heap → Prop} {e : Env} {h : Heap} : midQ M Q .ret e h = Q .ret e h := id rfl
@[simp] theorem midQ_e {M : Env → Heap → Prop} {Q : Ex → Env → Heap → Prop} {e : Env} {h : Heap} {i : Nat} : midQ M Q (.exit i) e h = Q (.exit i) e h := id rfl

theorem W_front : ∀ (n : Nat) (c : SCode) {e : Env} {h : Heap} {Q : Ex → Env → Heap → Prop} (M : Env → Heap → Prop), W p (front n c) e h (midQ M Q) → (∀ e' h', M e' h' → W p (back n c) e' h' Q) → W p c e h Q := by
  intro n
  induction n with
  | zero =>
    intro c e h Q M a b
    have : front 0 c = .skip := by cases c <;> rfl
    rw [this] at a
    simp at a
    exact b _ _ a
  | succ n ih =>
    intro c e h Q M a b
    cases c with
    | seq c d =>
      simp only [front, W_seq] at a ⊢
      refine a.mono fun x e' h' k => ?_
      cases x with
      | normal => exact ih d M k b
      | exit i => exact k
      | ret => exact k
    | _ =>
      simp only [front] at a
      simp at a
      exact b _ _ a

end Go.Cl

namespace Go.Cl
open Go
set_option linter.unusedSimpArgs false
set_option linter.unusedVariables false

/-- numbers as values -/
def i64s (l : List Int) : List CV := l.map (.int .i64 ·)
@[simp] theorem i64s_length {l : List Int} : (i64s l).length = l.length := by simp [i64s]
theorem i64s_get {l : List Int} {i : Nat} : (i64s l)[i]? = (l[i]?).map (.int .i64 ·) := by simp [i64s]

def asI (f : Int → Option Int) : Int → Option CV := fun k => (f k).map (.int .i64 ·)
def updI (f : Int → Option Int) (k v : Int) : Int → Option Int := fun i => if i = k then some v else f i
theorem asI_upd {f : Int → Option Int} {k v : Int} : upd (asI f) k (.int .i64 v) = asI (updI f k v) := by
  funext i; unfold upd asI updI; by_cases h : i = k <;> simp [h]

/-- a guard at g: its tasks' periods, when each began last, the time -/
structure GuardAt (h : Heap) (g : Nat) (pv : CV) (mb : Nat) (P : List Int) (f : Int → Option Int) (now : Int) : Prop where
  obj : h[g]? = some (.arr [pv, .mp mb, .int .i64 now] .tight)
  per : Read h 1 pv (i64s P)
  map : MapI h .i64 mb (asI f)
  apart : ∀ b, pv.blk = some b → b ≠ g ∧ b ≠ mb

theorem GuardAt.ne {h : Heap} {g : Nat} {pv : CV} {mb : Nat} {P : List Int} {f : Int → Option Int} {now : Int} (a : GuardAt h g pv mb P f now) : g ≠ mb := by
  obtain ⟨es, c, h1, _⟩ := a.map
  exact ne_of_obj a.obj h1 (by simp)

theorem GuardAt.keep {S : Nat → Prop} {h h' : Heap} {g : Nat} {pv : CV} {mb : Nat} {P : List Int} {f : Int → Option Int} {now : Int} (a : GuardAt h g pv mb P f now) (k : Keep S h h') (hg : ¬ S g) (hm : ¬ S mb) (hp : ∀ b, pv.blk = some b → ¬ S b) : GuardAt h' g pv mb P f now :=
  ⟨k.at a.obj hg, a.per.keep k hp, a.map.keep k hm, a.apart⟩

/-- what 'Ask' answers -/
def askE (P : List Int) (f : Int → Option Int) (now task t : Int) (live : Bool) : Int :=
  if task < 0 ∨ (P.length : Int) ≤ task then 3
  else if t < now ∨ t < 0 ∨ 1099511627776 < t then 1
  else if (match f task with | some l => decide (IntKind.i64.wrap (t - l) < P.getD task.toNat 0) | none => false) = true then 12
  else if live then 10 else 0

variable {p : PP}

theorem ask_spec {h : Heap} {g : Nat} {pv : CV} {mb : Nat} {P : List Int} {f : Int → Option Int} {now : Int} (hp : p.Pg 6 = some S.f6) (hr : p.pr 6 = none) (a : GuardAt h g pv mb P f now) (task t : Int) (live : Bool) :
    WF p 6 [.ptr g 0, .int .i64 task, .int .i64 t, .bool live] h fun r h' => r = .int .i64 (askE P f now task t live) ∧
      (if askE P f now task t live = 0 then GuardAt h' g pv mb P (updI f task t) t else h' = h) ∧ Keep (fun b => b = g ∨ b = mb) h h' ∧ h'.length = h.length := by
  refine WF_of hp hr ?_
  show W p S.b6 _ _ (retQ [.t 8] _)
  unfold S.b6
  have a1 := a.obj
  have hlen : lenV h .sl pv = some (.int .i64 (P.length : Int)) := by have := a.per.len (by decide); simpa using this
  have l1 := ld a1
  by_cases h1 : task < 0
  · simp [h1, askE, Keep.refl]
  by_cases h2 : (P.length : Int) ≤ task
  · simp [h1, h2, l1, hlen, askE, Keep.refl]
  by_cases h3 : t < now
  · simp [h1, h2, h3, l1, hlen, askE, Keep.refl]
  by_cases h4 : t < 0
  · simp [h1, h2, h3, h4, l1, hlen, askE, Keep.refl]
  by_cases h5 : 1099511627776 < t
  · simp [h1, h2, h3, h4, h5, l1, hlen, askE, Keep.refl]
  obtain ⟨i, rfl⟩ := Int.eq_ofNat_of_zero_le (Int.not_lt.1 h1)
  have hi : i < P.length := by omega
  obtain ⟨b, o, c1, c2, c3⟩ := a.per.cell (i := i) (k := .i64) (by simp; omega) (by decide)
  have c4 := c3 0 (by decide)
  simp only [Nat.mul_one, Nat.add_zero, i64s_get, List.getElem?_eq_getElem hi, Option.map_some] at c4
  have hl := a.map.look true (.int .i64 0) i
  have hd : P.getD i 0 = P[i] := by simp [List.getD, hi]
  have hidx : ((i : Int)).toNat = i := by simp
  obtain ⟨w, s, h1', p1, p2, p3, p4⟩ := a.map.put (.int .i64 0) (.int .i64 t) i
  obtain ⟨h3', q1, q2, q3, q4⟩ := p4 h1' (Keep.refl _ _)
  have hne := a.ne
  have g1 : h1'[g]? = some (.arr [pv, .mp mb, .int .i64 now] .tight) := p2.at a1 hne
  have g3 : h3'[g]? = some (.arr [pv, .mp mb, .int .i64 now] .tight) := q3.at g1 hne
  have hkeep : Keep (fun b => b = g ∨ b = mb) h (h3'.set g (.arr [pv, .mp mb, .int .i64 t] .tight)) :=
    ((p2.trans q3).mono fun _ _ e => .inr e).trans (Keep.set _ _ (.inl rfl))
  have hfin : GuardAt (h3'.set g (.arr [pv, .mp mb, .int .i64 t] .tight)) g pv mb P (updI f i t) t := by
    refine ⟨get_set_self (lt_of_get g3), a.per.keep hkeep (fun b hb => ?_), ?_, a.apart⟩
    · have := a.apart b hb; simp [this.1, this.2]
    · rw [← asI_upd]; exact q2.keep (Keep.set (S := (· = g)) _ _ rfl) (fun e => hne e.symm)
  have s3 := stt g3
  cases hf : f i with
  | some l =>
    have hf' : asI f i = some (.int .i64 l) := by simp [asI, hf]
    rw [hf'] at hl
    by_cases h7 : IntKind.i64.wrap (t - l) < P[i]
    · simp [h1, h2, h3, h4, h5, l1, hlen, askE, Keep.refl, hl, c1, c4, hf, h7, hd, hidx, hi]
    · cases live
      · simp [h1, h2, h3, h4, h5, l1, hlen, hl, c1, c4, hf, h7, hd, hidx, hi, askE, p1, q1, s3, fits, CV.cells, CV.scalar, splice, hfin, hkeep, q4, p3]
      · simp [h1, h2, h3, h4, h5, l1, hlen, askE, Keep.refl, hl, c1, c4, hf, h7, hd, hidx, hi]
  | none =>
    have hf' : asI f i = none := by simp [asI, hf]
    rw [hf'] at hl
    cases live
    · simp [h1, h2, h3, h4, h5, l1, hlen, hl, c1, c4, hf, hd, hidx, hi, askE, p1, q1, s3, fits, CV.cells, CV.scalar, splice, hfin, hkeep, q4, p3]
    · simp [h1, h2, h3, h4, h5, l1, hlen, askE, Keep.refl, hl, c1, c4, hf, hd, hidx, hi]

theorem last_spec {h : Heap} {g : Nat} {pv : CV} {mb : Nat} {P : List Int} {f : Int → Option Int} {now : Int} (hp : p.Pg 8 = some S.f8) (hr : p.pr 8 = none) (a : GuardAt h g pv mb P f now) (k : Int) :
    WF p 8 [.ptr g 0, .int .i64 k] h fun r h' => h' = h ∧ r = match f k with | some l => .tup [.int .i64 l, .bool true] | none => .tup [.int .i64 0, .bool false] := by
  refine WF_of hp hr ?_
  show W p S.b8 _ _ (retQ [.t 4, .t 5] _)
  unfold S.b8
  have l1 := ld a.obj
  have hl := a.map.look true (.int .i64 0) k
  cases hf : f k with
  | some l =>
    have hf' : asI f k = some (.int .i64 l) := by simp [asI, hf]
    rw [hf'] at hl
    simp [l1, hl, result]
  | none =>
    have hf' : asI f k = none := by simp [asI, hf]
    rw [hf'] at hl
    simp [l1, hl, result]

end Go.Cl

namespace Go.Cl
open Go
set_option linter.unusedSimpArgs false
set_option linter.unusedVariables false
variable {p : PP}

/-- tasks that can be read: their periods -/
def TasksAt (h : Heap) (tv : CV) (ps : List Int) : Prop := ∃ cs, Read h 5 tv cs ∧ cs.length = 5 * ps.length ∧ ∀ i, (hi : i < ps.length) → cs[i * 5 + 1]? = some (.int .i64 ps[i])

theorem new_spec {h : Heap} {x y tv : CV} {ps : List Int} (hp : p.Pg 5 = some S.f5) (hr : p.pr 5 = none) (ht : TasksAt h tv ps) (hbig : ps.length ≤ big) :
    WF p 5 [.agg [x, y, tv]] h fun r h' => ∃ g pv mb, r = .ptr g 0 ∧ GuardAt h' g pv mb ps (fun _ => none) 0 ∧ Keep (fun _ => False) h h' ∧ h.length ≤ g ∧ h.length ≤ mb ∧ (∀ b, pv.blk = some b → h.length ≤ b) := by
  refine WF_of hp hr ?_
  show W p S.b5 _ _ (retQ [.t 2] _)
  unfold S.b5
  obtain ⟨cs, t1, t2, t3⟩ := ht
  simp [CV.cells, fillC, splice]
  refine W_loop (fun m e h' => ∃ k pv, k ≤ ps.length ∧ m = ps.length - k ∧ e = [(1, .ptr h.length 0), (3, .ptr (h.length + 1 + 1) 0)] ∧ Keep (fun _ => False) h h' ∧
    h'[h.length]? = some (.arr [x, y, tv] .tight) ∧ h'[h.length + 1 + 1]? = some (.arr [pv, .mp (h.length + 1), .int .i64 0] .tight) ∧ h'[h.length + 1]? = some (.map [] 0) ∧
    Grown h' 1 pv (i64s (ps.take k)) ∧ (∀ b, pv.blk = some b → h.length ≤ b)) ?_ ps.length ⟨0, .nils, by omega, by omega, rfl, ?_, ?_, ?_, ?_, .inl ⟨rfl, rfl⟩, by simp [CV.blk]⟩
  · rintro m e h' ⟨k, pv, hk, rfl, rfl, kp, b1, b2, b3, gr, hb⟩
    have l1 := ld b1
    have l2 := ld b2
    have hpl : lenV h' .sl pv = some (.int .i64 (k : Int)) := by
      have := gr.read.len (by decide); simpa [Nat.min_eq_left hk] using this
    have tr := t1.keep kp (fun _ _ => id)
    have htl : lenV h' .sl tv = some (.int .i64 (ps.length : Int)) := by
      have := tr.len (by decide); rw [t2] at this; simpa using this
    by_cases hkn : k = ps.length
    · subst hkn
      simp [l1, l2, hpl, htl]
      refine ⟨pv, h.length + 1, ⟨b2, ?_, ⟨[], 0, b3, ⟨by simp, by simp, by simp⟩, fun _ => rfl⟩, ?_⟩, kp, by omega, by omega, hb⟩
      · have := gr.read; rwa [List.take_length] at this
      · rcases gr with ⟨rfl, _⟩ | ⟨b, n, rfl, _, _, q⟩
        · intro b hb'; simp [CV.blk] at hb'
        · intro b' hb'
          simp [CV.blk] at hb'; subst hb'
          exact ⟨ne_of_obj q b2 (by simp), ne_of_obj q b3 (by simp)⟩
    · have hlt : k < ps.length := by omega
      have hkn' : ¬ (k : Int) = (ps.length : Int) := by omega
      obtain ⟨b, o, c1, c2, c3⟩ := tr.cell (i := k) (k := .i64) (by rw [t2]; omega) (by decide)
      have c4 := c3 1 (by decide)
      rw [t3 k hlt] at c4
      have kp2 : Keep (fun _ => False) h' (h' ++ [.arr [.int .i64 ps[k]] .tight]) := Keep.app _ _ _
      have sp : spread (h' ++ [.arr [.int .i64 ps[k]] .tight]) 1 (.sl h'.length 0 1 1) = some (1, [.int .i64 ps[k]]) := by simp [spread, cellsAt]
      have gr2 := gr.keep kp2 (fun _ _ => id)
      obtain ⟨h3, a1, a2, a3, a4⟩ := append_grown (ys := [.int .i64 ps[k]]) (k := 1) gr2 (by decide) rfl rfl (by simp; omega) (by decide) (by decide)
      have hpv : ∀ b, pv.blk = some b → b ≠ h.length + 1 + 1 ∧ b ≠ h.length + 1 ∧ b ≠ h.length := by
        rcases gr with ⟨rfl, _⟩ | ⟨b, n, rfl, _, _, q⟩
        · intro b hb'; simp [CV.blk] at hb'
        · intro b' hb'
          simp [CV.blk] at hb'; subst hb'
          exact ⟨ne_of_obj q b2 (by simp), ne_of_obj q b3 (by simp), ne_of_obj q b1 (by simp)⟩
      have d1 := a4.at (kp2.at b1 id) (fun e => (hpv _ e).2.2 rfl)
      have d2 := a4.at (kp2.at b2 id) (fun e => (hpv _ e).1 rfl)
      have d3 := a4.at (kp2.at b3 id) (fun e => (hpv _ e).2.1 rfl)
      have s2 := stt d2
      simp [l1, l2, hpl, htl, hkn', c1, c4, fillC, CV.cells, splice, sp, a1, s2, fits, CV.scalar]
      refine ⟨ps.length - (k + 1), by omega, k + 1, by omega, rfl, ?_, ?_, ⟨_, get_set_self (lt_of_get d2), ?_, ?_, ?_⟩⟩
      · refine ((kp.trans kp2).then a4 fun i hi e => ?_).then (Keep.set (S := (· = h.length + 1 + 1)) _ _ rfl) fun i hi e => ?_
        · have := hb i e; omega
        · omega
      · rw [get_set_ne (by omega)]; exact d1
      · exact d3
      · have e : i64s (List.take (k + 1) ps) = i64s (List.take k ps) ++ [.int .i64 ps[k]] := by unfold i64s; rw [← List.take_append_getElem hlt, List.map_append]; rfl
        rw [e]
        have hlen : h.length + 1 + 1 < h'.length := lt_of_get b2
        have := a2.keep (Keep.set (S := (· = h.length + 1 + 1)) h3 (.arr [.sl (h'.length + 1) 0 ((i64s (List.take k ps)).length / 1 + 1) ((i64s (List.take k ps)).length / 1 + 1), .mp (h.length + 1), .int .i64 0] .tight) rfl) (fun b e => by simp [CV.blk] at e; omega)
        simpa using this
      · intro b e
        have := kp.len
        simp [CV.blk] at e; omega
  · exact Keep.app _ _ _
  · simp
  · rw [show h ++ [Obj.arr [x, y, tv] .tight, Obj.map [] 0, Obj.arr [.nils, .mp (h.length + 1), .int .i64 0] .tight] = (h ++ [Obj.arr [x, y, tv] .tight, Obj.map [] 0]) ++ [Obj.arr [.nils, .mp (h.length + 1), .int .i64 0] .tight] by simp]
    rw [show h.length + 1 + 1 = (h ++ [Obj.arr [x, y, tv] .tight, Obj.map [] 0]).length by simp]
    simp
  · simp
end Go.Cl

namespace Go.Cl
open Go
set_option linter.unusedSimpArgs false
set_option linter.unusedVariables false
set_option maxHeartbeats 2000000

variable {p : PP}

theorem i64s_ints (l : List Int) : i64s l = ints .i64 l := rfl

/-- the document's guard at m -/
structure RgAt (h : Heap) (m : Nat) (pv lv : CV) (P L : List Int) (now : Int) : Prop where
  obj : h[m]? = some (.arr [pv, lv, .int .i64 now] .tight)
  per : Sl (.int .i64) h (fun b => b ≠ m) pv P
  las : OwnL (.int .i64) h NoneOf lv L
  apart : ∀ b, (pv.blk = some b ∨ lv.blk = some b) → b ≠ m

/-- who began when, out of the document's list -/
def lastF (L : List Int) : Int → Option Int := fun k => if 0 ≤ k ∧ k < L.length then (if 0 ≤ L.getD k.toNat 0 then some (L.getD k.toNat 0) else none) else none

theorem lastF_upd {L : List Int} {i : Nat} {t : Int} (hi : i < L.length) (ht : 0 ≤ t) : lastF (L.set i t) = updI (lastF L) i t := by
  funext k
  unfold lastF updI
  dsimp only
  rw [List.length_set]
  by_cases hk : k = i
  · subst hk
    rw [if_pos rfl, if_pos ⟨by omega, by omega⟩]
    simp [List.getD, hi, ht]
  · rw [if_neg hk]
    by_cases hb : 0 ≤ k ∧ k < L.length
    · obtain ⟨j, rfl⟩ := Int.eq_ofNat_of_zero_le hb.1
      have hij : ¬ i = j := fun e => hk (by rw [e])
      rw [if_pos hb, if_pos hb]
      simp [List.getD, List.getElem?_set, hij]
      first | rfl | congr
    · rw [if_neg hb, if_neg hb]

/-- a number in a row of one's own -/
theorem OwnL.seti {h : Heap} {v : CV} {l : List Int} (s : OwnL (.int .i64) h NoneOf v l) {j : Nat} (hj : j < l.length) (z : Int) :
    ∃ b h', v.blk = some b ∧ idxAddrV 1 v (.int .i64 j) = some (.ptr b j) ∧ storeAt h b j [.int .i64 z] = some h' ∧ Keep (fun k => k = b) h h' ∧ OwnL (.int .i64) h' NoneOf v (l.set j z) := by
  obtain ⟨cells, m, rs, _⟩ := s
  rw [rows_ints] at rs
  subst rs
  rcases m with ⟨rfl, h0⟩ | ⟨b, n, st, rfl, h1, h2, h3⟩
  · have : l.length = 0 := by simpa using congrArg List.length h0
    omega
  · have hn : n = l.length := by simpa [Cod.int] using h1.symm
    have hjn : (j : Int) < n := by omega
    have e1 : idxAddrV 1 (.sl b 0 n n) (.int .i64 j) = some (.ptr b j) := by
      rw [idxAddrV_sl, if_pos ⟨by omega, hjn⟩]; simp
    have hset : splice (ints .i64 l) j [.int .i64 z] = ints .i64 (l.set j z) := by
      rw [splice_set (by simpa using hj)]
      simp [ints, List.map_set]
    have hst : storeAt h b j [.int .i64 z] = some (h.set b (.arr (ints .i64 (l.set j z)) st)) := by
      unfold storeAt
      rw [h3]
      simp only
      rw [if_pos ⟨by rcases h2 with rfl | rfl <;> simp, by simp; omega, rfl⟩, hset]
    refine ⟨b, _, rfl, e1, hst, Keep.set _ _ rfl, ⟨_, .inr ⟨b, n, st, rfl, ?_, h2, get_set_self (lt_of_get h3)⟩, rows_ints.2 rfl, fun b hb hn => hn⟩⟩
    simp [Cod.int, hn]

theorem refAsk_spec (hpg : p.Pg = S.pg) (q13 : p.pr 13 = none) {h : Heap} {m : Nat} {pv lv : CV} {P L : List Int} {now : Int} (a : RgAt h m pv lv P L now) (hPL : P.length = L.length) (hl : L.length ≤ 1000) (task t : Int) (live : Bool) :
    WF p 13 [.ptr m 0, .int .i64 task, .int .i64 t, .bool live] h fun r h' => r = .int .i64 (askE P (lastF L) now task t live) ∧ Keep (fun b => b = m) h h' ∧
      ∃ lv', RgAt h' m pv lv' P (if askE P (lastF L) now task t live = 0 then L.set task.toNat t else L) (if askE P (lastF L) now task t live = 0 then t else now) ∧ (∀ b, lv'.blk = some b → lv.blk = some b ∨ h.length ≤ b) := by
  refine WF_of (by rw [hpg]; exact S.pg13) q13 ?_
  show W p S.b13 _ _ (retQ [.t 8] _)
  unfold S.b13
  have l0 := ld a.obj
  have nl := a.las.sl.len (by decide)
  have same : ∀ e : Int, e ≠ 0 → Keep (fun b => b = m) h h ∧ ∃ lv', RgAt h m pv lv' P (if e = 0 then L.set task.toNat t else L) (if e = 0 then t else now) ∧ (∀ b, lv'.blk = some b → lv.blk = some b ∨ h.length ≤ b) := fun e he =>
    ⟨Keep.refl _ _, lv, by rw [if_neg he, if_neg he]; exact a, fun b hb => .inl hb⟩
  by_cases h1 : task < 0
  · have hA : askE P (lastF L) now task t live = 3 := by unfold askE; rw [if_pos (.inl h1)]
    rw [hA]
    simp [h1]
    simpa using same 3 (by decide)
  by_cases h2 : (L.length : Int) ≤ task
  · have hA : askE P (lastF L) now task t live = 3 := by unfold askE; rw [if_pos (.inr (by omega))]
    rw [hA]
    simp [h1, l0, nl, h2]
    simpa using same 3 (by decide)
  obtain ⟨i, rfl⟩ := Int.eq_ofNat_of_zero_le (Int.not_lt.1 h1)
  have hi : i < L.length := by omega
  by_cases h3 : t < 0 ∨ 1099511627776 < t ∨ t < now
  · have hA : askE P (lastF L) now i t live = 1 := by unfold askE; rw [if_neg (by omega), if_pos (by omega)]
    rw [hA]
    rcases h3 with h3 | h3 | h3
    · simp [h1, l0, nl, h2, h3]
      simpa using same 1 (by decide)
    · by_cases h4 : t < 0
      · simp [h1, l0, nl, h2, h3, h4]
        simpa using same 1 (by decide)
      · simp [h1, l0, nl, h2, h3, h4]
        simpa using same 1 (by decide)
    · by_cases h4 : t < 0
      · simp [h1, l0, nl, h2, h3, h4]
        simpa using same 1 (by decide)
      · by_cases h5 : 1099511627776 < t
        all_goals simp [h1, l0, nl, h2, h3, h4, h5]; simpa using same 1 (by decide)
  have h4 : ¬ t < 0 := fun h => h3 (.inl h)
  have h5 : ¬ 1099511627776 < t := fun h => h3 (.inr (.inl h))
  have h6 : ¬ t < now := fun h => h3 (.inr (.inr h))
  obtain ⟨b1, o1, row1, x1, x2, x3, x4⟩ := a.las.sl.row (k := .i64) (by decide) hi
  have x4 : row1 = [.int .i64 L[i]] := x4
  have x1 : idxAddrV 1 lv (.int .i64 i) = some (.ptr b1 o1) := x1
  have x5 := x3 0 (by decide)
  rw [x4] at x5
  have x5 : loadAt h b1 o1 none = some (.int .i64 L[i]) := x5
  obtain ⟨b2, o2, row2, y1, y2, y3, y4⟩ := a.per.row (k := .i64) (by decide) (i := i) (by omega)
  have y4 : row2 = [.int .i64 (P[i]'(by omega))] := y4
  have y1 : idxAddrV 1 pv (.int .i64 i) = some (.ptr b2 o2) := y1
  have y5 := y3 0 (by decide)
  rw [y4] at y5
  have y5 : loadAt h b2 o2 none = some (.int .i64 (P[i]'(by omega))) := y5
  have hf : lastF L i = if 0 ≤ L[i] then some L[i] else none := by
    unfold lastF
    rw [if_pos ⟨by omega, by omega⟩]
    simp [List.getD, hi]
  have hd : P.getD ((i : Int)).toNat 0 = P[i]'(by omega) := by simp [List.getD, show i < P.length by omega]
  have hA : askE P (lastF L) now i t live = if 0 ≤ L[i] ∧ IntKind.i64.wrap (t - L[i]) < P[i]'(by omega) then 12 else if live then 10 else 0 := by
    unfold askE
    rw [if_neg (by omega), if_neg (by omega), hf, hd]
    by_cases hz : 0 ≤ L[i]
    · rw [if_pos hz]
      by_cases hw : IntKind.i64.wrap (t - L[i]) < P[i]'(by omega)
      all_goals simp [hz, hw]
    · rw [if_neg hz]
      simp [hz]
  by_cases hs : 0 ≤ L[i] ∧ IntKind.i64.wrap (t - L[i]) < P[i]'(by omega)
  · rw [if_pos hs] at hA
    rw [hA]
    simp [h1, l0, nl, h2, h4, h5, h6, x1, x5, y1, y5, hs.1, hs.2]
    simpa using same 12 (by decide)
  rw [if_neg hs] at hA
  have hguard : (0 ≤ L[i] ∧ ¬ IntKind.i64.wrap (t - L[i]) < P[i]'(by omega)) ∨ ¬ 0 ≤ L[i] := by
    by_cases hz : 0 ≤ L[i]
    · exact .inl ⟨hz, fun hw => hs ⟨hz, hw⟩⟩
    · exact .inr hz
  cases live with
  | true =>
    rw [if_pos rfl] at hA
    rw [hA]
    rcases hguard with ⟨hz, hw⟩ | hz
    · simp [h1, l0, nl, h2, h4, h5, h6, x1, x5, y1, y5, hz, hw]
      simpa using same 10 (by decide)
    · simp [h1, l0, nl, h2, h4, h5, h6, x1, x5, y1, y5, hz]
      simpa using same 10 (by decide)
  | false =>
    rw [if_neg (by decide)] at hA
    rw [hA]
    have kap : Keep NoneOf h (h ++ [.arr [] .tight]) := Keep.app _ _ _
    have g1 := kap.at a.obj id
    have l1 := ld g1
    have las1 := a.las.on kap
    obtain ⟨cells, rd, _, rs⟩ := las1.sl
    have hcl := rs.1
    have hsp : spread (h ++ [.arr [] .tight]) 1 lv = some (L.length, cells) := by
      have e : spread (h ++ [.arr [] .tight]) 1 lv = some (cells.length / 1, cells) := rd.spread (by decide)
      rw [e]
      simp [Cod.int] at hcl
      simp [hcl]
    have ow0 : OwnL (.int .i64) (h ++ [.arr [] .tight]) NoneOf (.sl h.length 0 0 0) [] := ⟨[], .inr ⟨h.length, 0, .tight, rfl, rfl, .inl rfl, by simp⟩, Rows.nil, fun b _ hn => hn⟩
    have fin : ∀ {K : CV × Heap → Prop}, (∀ lv' h2, OwnL (.int .i64) h2 NoneOf lv' L → Keep NoneOf h h2 → (∀ b, lv'.blk = some b → h.length ≤ b) → K (lv', h2)) → OV (appendTo (h ++ [.arr [] .tight]) 1 (.sl h.length 0 0 0) L.length cells) K := fun {K} kk => by
      refine OV_pushes (e := .int .i64) (m := L) ow0 (rows_ints.2 (rows_ints.1 rs)) rfl (fun _ hb => hb.elim) (by simp) (by simp [big]; omega) (by decide) ?_
      intro lv' h2 o2 k2 hb2
      refine kk lv' h2 (by simpa using o2) (kap.then k2 fun b hb e => by simp [CV.blk] at e; omega) fun b hb => ?_
      rcases hb2 b hb with hq | hq
      · simp [CV.blk] at hq; omega
      · simp at hq; omega
    have tail : ∀ {lv' : CV} {h2 : Heap}, OwnL (.int .i64) h2 NoneOf lv' L → Keep NoneOf h h2 → (∀ b, lv'.blk = some b → h.length ≤ b) →
        ∃ b h3, idxAddrV 1 lv' (.int .i64 i) = some (.ptr b i) ∧ storeAt h2 b i [.int .i64 t] = some h3 ∧ storeAt h3 m 1 [lv'] = some (h3.set m (.arr [pv, lv', .int .i64 now] .tight)) ∧
          storeAt (h3.set m (.arr [pv, lv', .int .i64 now] .tight)) m 2 [.int .i64 t] = some ((h3.set m (.arr [pv, lv', .int .i64 now] .tight)).set m (.arr [pv, lv', .int .i64 t] .tight)) ∧
          Keep (fun b => b = m) h ((h3.set m (.arr [pv, lv', .int .i64 now] .tight)).set m (.arr [pv, lv', .int .i64 t] .tight)) ∧ RgAt ((h3.set m (.arr [pv, lv', .int .i64 now] .tight)).set m (.arr [pv, lv', .int .i64 t] .tight)) m pv lv' P (L.set i t) t := by
      intro lv' h2 o2 k2 hb2
      obtain ⟨b, h3, c1, c2, c3, c4, c5⟩ := o2.seti hi t
      have hm := lt_of_get a.obj
      have hbm := hb2 b c1
      have g3 := c4.at (k2.at a.obj id) (by omega)
      have s1 := sto1 g3 (o := 1) (v := lv') (by simp) o2.scalar
      have g4 : (h3.set m (.arr [pv, lv', .int .i64 now] .tight))[m]? = some (.arr [pv, lv', .int .i64 now] .tight) := get_set_self (lt_of_get g3)
      have s2 := sto1 g4 (o := 2) (v := .int .i64 t) (by simp) rfl
      have kA : Keep (fun k => k = m) h3 (h3.set m (.arr [pv, lv', .int .i64 now] .tight)) := Keep.set _ _ rfl
      have kB : Keep (fun k => k = m) (h3.set m (.arr [pv, lv', .int .i64 now] .tight)) ((h3.set m (.arr [pv, lv', .int .i64 now] .tight)).set m (.arr [pv, lv', .int .i64 t] .tight)) := Keep.set _ _ rfl
      have k3 : Keep NoneOf h h3 := k2.then c4 fun i hi e => by omega
      have kk : Keep (fun b => b = m) h ((h3.set m (.arr [pv, lv', .int .i64 now] .tight)).set m (.arr [pv, lv', .int .i64 t] .tight)) := ((k3.mono fun _ _ hn => hn.elim).trans kA).trans kB
      refine ⟨b, h3, c2, c3, s1, s2, kk, get_set_self (lt_of_get g4), ?_, ?_, ?_⟩
      · exact a.per.keep kk fun b hb e => hb e
      · exact (c5.keep kA (fun b hb e => by have := hb2 b hb; omega) (fun _ hb => hb.elim)).keep kB (fun b hb e => by have := hb2 b hb; omega) (fun _ hb => hb.elim)
      · intro b hb
        rcases hb with hb | hb
        · exact a.apart b (.inl hb)
        · have := hb2 b hb; omega
    have hnil : fillC [] [] = some [] := rfl
    rcases hguard with ⟨hz, hw⟩ | hz
    · simp [h1, l0, nl, h2, h4, h5, h6, x1, x5, y1, y5, hz, hw, hnil, l1, hsp]
      refine fin fun lv' h2 o2 k2 hb2 => ?_
      obtain ⟨b, h3, c1, c2, c3, c4, c5, c6⟩ := tail o2 k2 hb2
      rw [List.set_set] at c5 c6
      have fs := fits_scalar o2.scalar
      have cs := CV.cells_scalar o2.scalar
      simp [c1, c2, fs, cs, c3, c4]
      exact ⟨c5, lv', c6, fun b hb => .inr (hb2 b hb)⟩
    · simp [h1, l0, nl, h2, h4, h5, h6, x1, x5, y1, y5, hz, hnil, l1, hsp]
      refine fin fun lv' h2 o2 k2 hb2 => ?_
      obtain ⟨b, h3, c1, c2, c3, c4, c5, c6⟩ := tail o2 k2 hb2
      rw [List.set_set] at c5 c6
      have fs := fits_scalar o2.scalar
      have cs := CV.cells_scalar o2.scalar
      simp [c1, c2, fs, cs, c3, c4]
      exact ⟨c5, lv', c6, fun b hb => .inr (hb2 b hb)⟩

end Go.Cl

namespace Go.Cl
open Go
set_option linter.unusedSimpArgs false
set_option linter.unusedVariables false
set_option maxHeartbeats 2000000

variable {p : PP}

theorem u8n {x : Int} (h0 : 0 ≤ x) (h1 : x < 256) : IntKind.u8.wrap x = x := by
  show x % 256 = x
  omega

theorem WF_own {f : Nat} {g : List CV → Heap → Option (CV × Heap)} {vs : List CV} {h h' : Heap} {r : CV} {K : CV → Heap → Prop} (hp : p.pr f = some g) (e : g vs h = some (r, h')) (k : K r h') : WF p f vs h K :=
  ⟨1, r, h', by simp [PP.call, evCall, hp, e], k⟩

def lastR (o : Option Int) : CV := match o with | some l => .tup [.int .i64 l, .bool true] | none => .tup [.int .i64 0, .bool false]

theorem refLast_spec (hpg : p.Pg = S.pg) (q14 : p.pr 14 = none) {h : Heap} {m : Nat} {pv lv : CV} {P L : List Int} {now : Int} (a : RgAt h m pv lv P L now) (k : Int) :
    WF p 14 [.ptr m 0, .int .i64 k] h fun r h' => h' = h ∧ r = lastR (lastF L k) := by
  refine WF_of (by rw [hpg]; exact S.pg14) q14 ?_
  show W p S.b14 _ _ (retQ [.t 4, .t 5] _)
  unfold S.b14
  have l0 := ld a.obj
  have nl := a.las.sl.len (by decide)
  by_cases h1 : k < 0
  · have hf : lastF L k = none := by unfold lastF; rw [if_neg (by omega)]
    rw [hf]
    simp [h1, lastR]
  by_cases h2 : (L.length : Int) ≤ k
  · have hf : lastF L k = none := by unfold lastF; rw [if_neg (by omega)]
    rw [hf]
    simp [h1, l0, nl, h2, lastR]
  obtain ⟨i, rfl⟩ := Int.eq_ofNat_of_zero_le (Int.not_lt.1 h1)
  have hi : i < L.length := by omega
  obtain ⟨b1, o1, row1, x1, x2, x3, x4⟩ := a.las.sl.row (k := .i64) (by decide) hi
  have x4 : row1 = [.int .i64 L[i]] := x4
  have x1 : idxAddrV 1 lv (.int .i64 i) = some (.ptr b1 o1) := x1
  have x5 := x3 0 (by decide)
  rw [x4] at x5
  have x5 : loadAt h b1 o1 none = some (.int .i64 L[i]) := x5
  have hf : lastF L i = if 0 ≤ L[i] then some L[i] else none := by
    unfold lastF
    rw [if_pos ⟨by omega, by omega⟩]
    simp [List.getD, hi]
  rw [hf]
  by_cases hz : 0 ≤ L[i]
  · have hz' : ¬ L[i] < 0 := by omega
    rw [if_pos hz]
    simp [h1, l0, nl, h2, x1, x5, hz, hz', lastR]
  · have hz' : L[i] < 0 := by omega
    rw [if_neg hz]
    simp [h1, l0, nl, h2, x1, x5, hz', lastR]

theorem twin_spec (hpg : p.Pg = S.pg) (q12 : p.pr 12 = none) (q54 : p.pr 54 = some p54) {h : Heap} {g mb : Nat} {pv : CV} {P : List Int} {f : Int → Option Int} {now : Int} (a : GuardAt h g pv mb P f now) :
    WF p 12 [.ptr g 0] h fun r h' => r = .ptr (h.length + 1) 0 ∧ GuardAt h' (h.length + 1) pv h.length P f now ∧ Keep NoneOf h h' := by
  refine WF_of (by rw [hpg]; exact S.pg12) q12 ?_
  show W p S.b12 _ _ (retQ [.t 2] _)
  unfold S.b12
  have l0 := ld a.obj
  obtain ⟨es, c, hm, ok, hk⟩ := a.map
  simp [l0]
  refine WO_re_n ?_
  simp
  refine WF_own (g := p54) (r := .mp h.length) (h' := h ++ [.map es c]) q54 (by simp [p54, hm]) ?_
  have kap : Keep NoneOf h (h ++ [.map es c]) := Keep.app _ _ _
  have l1 := ld (kap.at a.obj id)
  refine ⟨fun c => by simp [recheckB, wanted, Env.get, cls, evOp, Opd.ev, withH, CV.eqb, l1, CV.eqb_refl], ?_⟩
  have hs := a.per.scalar
  have cs := CV.cells_scalar hs
  simp [fillC, splice, cs]
  have kap2 : Keep NoneOf h (h ++ [.map es c, .arr [pv, .mp h.length, .int .i64 now] .tight]) := Keep.app _ _ _
  refine ⟨⟨by simp, a.per.keep kap2 fun _ _ => id, ⟨es, c, by simp, ok, hk⟩, fun b hb => ?_⟩, kap2⟩
  have := a.per.blk_lt b hb
  exact ⟨by omega, by omega⟩

def RnI (h : Heap) (c : List CV) (x : SetV) (m : Nat) (e : Env) (h' : Heap) : Prop :=
  ∃ (i : Nat) (pv lv : CV), i ≤ x.tasks.length ∧ m = x.tasks.length - i ∧ e = [(1, .ptr h.length 0), (3, .ptr (h.length + 1) 0), (4, .int .i64 i)] ∧ Keep NoneOf h h' ∧ h'[h.length]? = some (.arr c .tight) ∧
    h'[h.length + 1]? = some (.arr [pv, lv, .int .i64 0] .tight) ∧ OwnL (.int .i64) h' NoneOf pv ((x.tasks.map TaskV.per).take i) ∧ OwnL (.int .i64) h' NoneOf lv (List.replicate i (-1)) ∧
    (∀ b, pv.blk = some b → h.length + 2 ≤ b) ∧ (∀ b, lv.blk = some b → h.length + 2 ≤ b) ∧ ∀ b, pv.blk = some b → lv.blk ≠ some b

theorem refNew_spec (hpg : p.Pg = S.pg) (q11 : p.pr 11 = none) {h : Heap} {c : List CV} {x : SetV} {Q : Nat → Prop} (r0 : setC.rep h Q c x) (hx : x.tasks.length ≤ 1000) :
    WF p 11 [.agg c] h fun r h' => r = .ptr (h.length + 1) 0 ∧ Keep NoneOf h h' ∧ ∃ pv lv, RgAt h' (h.length + 1) pv lv (x.tasks.map TaskV.per) (List.replicate x.tasks.length (-1)) 0 ∧ (∀ b, pv.blk = some b → h.length + 2 ≤ b) ∧ (∀ b, lv.blk = some b → h.length + 2 ≤ b) := by
  obtain ⟨cv, tv, hC, sc, st⟩ := r0
  refine WF_of (by rw [hpg]; exact S.pg11) q11 ?_
  show W p S.b11 _ _ (retQ [.t 2] _)
  unfold S.b11
  have c2 : c[2]? = some tv := by subst hC; rfl
  clear hC
  have ca : ∀ l, (CV.agg l).cells = l := fun _ => rfl
  have hnil : fillC [.nils, .nils, .int .i64 0] [] = some [.nils, .nils, .int .i64 0] := rfl
  simp [ca, hnil]
  refine W_loop (RnI h c x) ?_ x.tasks.length ⟨0, .nils, .nils, by omega, by omega, rfl, Keep.app _ _ _, by simp, by simp, by simpa using OwnL.nil, by simpa using OwnL.nil, by simp [CV.blk], by simp [CV.blk], by simp [CV.blk]⟩
  rintro m e H ⟨i, pv, lv, hi, rfl, rfl, k, g0, g1, op, ol, bp, bl, ap⟩
  have l0 := ld g0
  have l1 := ld g1
  have s0 := st.on k
  have n0 := s0.len (by decide)
  by_cases hie : i = x.tasks.length
  · subst hie
    rw [List.take_of_length_le (by simp)] at op
    simp [l0, c2, n0]
    refine ⟨k, pv, lv, ⟨g1, op.sl.mono fun b hb => ?_, ol, fun b hb => ?_⟩, bp, bl⟩
    · rcases hb with hb | hb
      · exact hb.elim
      · have := bp b hb; omega
    · rcases hb with hb | hb
      · have := bp b hb; omega
      · have := bl b hb; omega
  · have hlt : i < x.tasks.length := by omega
    have hlt' : (i : Int) < x.tasks.length := by omega
    obtain ⟨bb, o, row, x1, x2, x3, x4⟩ := s0.row (k := .i64) (by decide) hlt
    obtain ⟨qv, hrow, _⟩ := x4
    simp only [taskC] at x1 x3
    have y1 := x3 1 (by decide)
    rw [hrow] at y1
    simp [tkL] at y1
    have hw : IntKind.i64.wrap ((i : Int) + 1) = ((i + 1 : Nat) : Int) := by rw [w64 (by omega) (by omega)]; omega
    have f1 : fillC [.int .i64 0] [(0, 1, .int .i64 x.tasks[i].per)] = some [.int .i64 x.tasks[i].per] := rfl
    have f2 : fillC [.int .i64 0] [(0, 1, .int .i64 (-1))] = some [.int .i64 (-1)] := rfl
    have kap : Keep NoneOf H (H ++ [.arr [.int .i64 x.tasks[i].per] .tight]) := Keep.app _ _ _
    have hg1 := lt_of_get g1
    have hmx : (x.tasks.map TaskV.per).take i ++ [x.tasks[i].per] = (x.tasks.map TaskV.per).take (i + 1) := by
      rw [← List.take_append_getElem (l := x.tasks.map TaskV.per) (i := i) (by simpa using hlt)]; simp
    simp [l0, c2, n0, hlt, hlt', l1, x1, y1, f1, spread, cellsAt]
    refine OV_push (e := .int .i64) (x := x.tasks[i].per) (op.on kap) rfl (fun _ hb => hb.elim) (by simp [big]; omega) (by decide) ?_
    intro pv' H2 o2 k2 hb2
    have bp2 : ∀ b, pv'.blk = some b → h.length + 2 ≤ b := fun b hb => by
      rcases hb2 b hb with hq | hq
      · exact bp b hq
      · simp at hq; omega
    have ap2 : ∀ b, pv'.blk = some b → lv.blk ≠ some b := fun b hb hl => by
      rcases hb2 b hb with hq | hq
      · exact ap b hq hl
      · have := ol.blk b hl; simp at hq; omega
    have g12 := k2.at (kap.at g1 id) (fun hv => by have := bp _ hv; omega)
    have g02 := k2.at (kap.at g0 id) (fun hv => by have := bp _ hv; omega)
    have ol2 := (ol.on kap).keep k2 (fun b hb hv => ap b hv hb) (fun _ hb => hb.elim)
    have hs2 := o2.scalar
    have s2 := sto1 g12 (o := 0) (v := pv') (by simp) hs2
    have hset : ([pv, lv, .int .i64 0] : List CV).set 0 pv' = [pv', lv, .int .i64 0] := rfl
    rw [hset] at s2
    have fs := fits_scalar hs2
    have cs := CV.cells_scalar hs2
    have ke : Keep (fun b => b = h.length + 1) H2 (H2.set (h.length + 1) (.arr [pv', lv, .int .i64 0] .tight)) := Keep.set _ _ rfl
    have g13 : (H2.set (h.length + 1) (.arr [pv', lv, .int .i64 0] .tight))[h.length + 1]? = some (.arr [pv', lv, .int .i64 0] .tight) := get_set_self (lt_of_get g12)
    have g03 := ke.at g02 (by omega)
    have op3 := o2.keep ke (fun b hb e => by have := bp2 b hb; omega) (fun _ hb => hb.elim)
    have ol3 := ol2.keep ke (fun b hb e => by have := bl b hb; omega) (fun _ hb => hb.elim)
    have k3 : Keep NoneOf h (H2.set (h.length + 1) (.arr [pv', lv, .int .i64 0] .tight)) := ((k.trans kap).then k2 fun b hb e => by have := bp b e; omega).then ke fun b hb e => by omega
    have l13 := ld g13
    simp [fs, cs, s2, l13, f2, spread, cellsAt]
    generalize H2.set (h.length + 1) (.arr [pv', lv, .int .i64 0] .tight) = H3 at *
    have kap3 : Keep NoneOf H3 (H3 ++ [.arr [.int .i64 (-1)] .tight]) := Keep.app _ _ _
    refine OV_push (e := .int .i64) (x := -1) (ol3.on kap3) rfl (fun _ hb => hb.elim) (by simp [big]; omega) (by decide) ?_
    intro lv' H4 o4 k4 hb4
    have hg3 := lt_of_get g13
    have bl4 : ∀ b, lv'.blk = some b → h.length + 2 ≤ b := fun b hb => by
      rcases hb4 b hb with hq | hq
      · exact bl b hq
      · simp at hq; omega
    have ap4 : ∀ b, pv'.blk = some b → lv'.blk ≠ some b := fun b hb hl => by
      rcases hb4 b hl with hq | hq
      · exact ap2 b hb hq
      · have := op3.blk b hb; simp at hq; omega
    have g14 := k4.at (kap3.at g13 id) (fun hv => by have := bl _ hv; omega)
    have g04 := k4.at (kap3.at g03 id) (fun hv => by have := bl _ hv; omega)
    have op4 := (op3.on kap3).keep k4 (fun b hb hv => ap2 b hb hv) (fun _ hb => hb.elim)
    have hs4 := o4.scalar
    have s4 := sto1 g14 (o := 1) (v := lv') (by simp) hs4
    have hset4 : ([pv', lv, .int .i64 0] : List CV).set 1 lv' = [pv', lv', .int .i64 0] := rfl
    rw [hset4] at s4
    have fs4 := fits_scalar hs4
    have cs4 := CV.cells_scalar hs4
    have ke4 : Keep (fun b => b = h.length + 1) H4 (H4.set (h.length + 1) (.arr [pv', lv', .int .i64 0] .tight)) := Keep.set _ _ rfl
    simp [fs4, cs4, s4, hw]
    refine ⟨_, by omega, i + 1, pv', lv', by omega, rfl, rfl, ((k3.trans kap3).then k4 fun b hb e => by have := bl b e; omega).then ke4 fun b hb e => by omega, ke4.at g04 (by omega), get_set_self (lt_of_get g14), ?_, ?_, bp2, bl4, ap4⟩
    · have := op4.keep ke4 (fun b hb e => by have := bp2 b hb; omega) (fun _ hb => hb.elim)
      rwa [hmx] at this
    · have := o4.keep ke4 (fun b hb e => by have := bl4 b hb; omega) (fun _ hb => hb.elim)
      rwa [← List.replicate_succ'] at this

/-! ### the law -/

structure ActV where
  task : Int
  now : Int
  live : Bool
  twin : Bool
  deriving Inhabited

def acL (x : ActV) : List CV := [.int .i64 x.task, .int .i64 x.now, .bool x.live, .bool x.twin]

def actC : Cod ActV where
  n := 4
  rep _ _ c x := c = acL x
  len e := by subst e; rfl
  flat e := by subst e; rfl
  mono e _ := e
  keep e _ _ := e
  lt e := e

def tkG (i : Nat) (q : Int) : TaskV := ⟨[UInt8.ofNat (97 + i)], q, q, 1, [⟨1, 1, 0, 0, []⟩]⟩
def tkR (P : List Int) (n : Nat) : List TaskV := (List.range n).map fun i => tkG i (P.getD i 0)
theorem tkR_len {P : List Int} {n : Nat} : (tkR P n).length = n := by simp [tkR]
theorem tkR_next {P : List Int} {n : Nat} : tkR P (n + 1) = tkR P n ++ [tkG n (P.getD n 0)] := by simp [tkR, List.range_succ]
theorem tkR_per {P : List Int} : (tkR P P.length).map TaskV.per = P := by
  apply List.ext_getElem
  · simp [tkR]
  · intro i h1 h2
    simp [tkR, tkG, List.getD, h2]

theorem tasksAt {h : Heap} {tv : CV} {l : List TaskV} {Q : Nat → Prop} (s : Sl taskC h Q tv l) : TasksAt h tv (l.map TaskV.per) := by
  obtain ⟨cells, rd, _, rs⟩ := s
  refine ⟨cells, rd, ?_, fun i hi => ?_⟩
  · have := rs.1
    simp [taskC] at this ⊢
    omega
  · have hi' : i < l.length := by simpa using hi
    obtain ⟨qv, hq, _⟩ := rs.2 i _ (List.getElem?_eq_getElem hi')
    have := congrArg (·[1]?) hq
    simp [taskC, tkL] at this
    rw [show i * 5 + 1 = i * 5 + 1 from rfl, this]
    simp

def GpI (h : Heap) (v0 v1 : CV) (P : List Int) (m : Nat) (e : Env) (h' : Heap) : Prop :=
  ∃ (i : Nat) (tv : CV), i ≤ P.length ∧ m = P.length - i ∧ e = [(0, v0), (1, v1), (5, .ptr h.length 0), (6, .int .i64 i)] ∧ Keep NoneOf h h' ∧ h'[h.length]? = some (.arr [.int .i64 0, .nils, tv] .tight) ∧ OwnN taskC (h.length + 1) h' tv (tkR P i) ∧ ∀ b, tv.blk = some b → h.length + 1 ≤ b

def GpM (h : Heap) (v1 : CV) (P : List Int) (e : Env) (h' : Heap) : Prop :=
  ∃ tv v0 r, e = (0, v0) :: (1, v1) :: (5, .ptr h.length 0) :: r ∧ Keep NoneOf h h' ∧ h'[h.length]? = some (.arr [.int .i64 0, .nils, tv] .tight) ∧ Sl taskC h' Any tv (tkR P P.length) ∧ 1 ≤ P.length ∧ P.length ≤ 12

theorem guardPlays_head (hpg : p.Pg = S.pg) (hpr : p.pr = addKnown [4] cloneLib) {h : Heap} {v0 v1 : CV} {P : List Int} {l : List ActV} {Q0 Q1 : Nat → Prop} (s0 : Sl (.int .i64) h Q0 v0 P) (s1 : Sl actC h Q1 v1 l) {K : CV → Heap → Prop} (kk : ∀ h', K (.bool true) h') :
    W p (front 5 S.b9) [(0, v0), (1, v1)] h (midQ (fun e h' => GpM h v1 P e h' ∧ l.length ≤ 60) (retQ [.t 4] K)) := by
  unfold S.b9
  simp only [front]
  have ca : ∀ l, (CV.agg l).cells = l := fun _ => rfl
  have n0 := s0.len (by decide)
  have n1 := s1.len (by decide)
  simp
  refine WF_known hpr rfl ?_
  by_cases a1 : (P.length : Int) < 1
  · have a1' : P.length = 0 := by omega
    simp [n0, a1, a1', kk]
  have a1' : ¬ P.length = 0 := by omega
  by_cases a2 : (12 : Int) < P.length
  · simp [n0, a1, a1', a2, kk]
  by_cases a3 : (60 : Int) < l.length
  · simp [n0, n1, a1, a1', a2, a3, kk]
  have hnil : fillC [.int .i64 0, .nils, .nils] [] = some [.int .i64 0, .nils, .nils] := rfl
  have st := store_new (h := h) (row := [.int .i64 0, .nils, .nils]) (z := [.int .i64 0, .nils, .nils]) rfl rfl
  simp [n0, n1, a1, a1', a2, a3, hnil, ca, st]
  refine W_loop (GpI h v0 v1 P) ?_ P.length ⟨0, .nils, by omega, by omega, rfl, Keep.app _ _ _, by simp, by simpa [tkR] using OwnN.nil, by simp [CV.blk]⟩
  rintro m e H ⟨i, tv, hi, rfl, rfl, k, g, ot, bt⟩
  have l0 := ld g
  have s := s0.on k
  have n0 := s.len (by decide)
  by_cases hie : i = P.length
  · subst hie
    simp [n0]
    exact ⟨⟨tv, v0, _, rfl, k, g, (OwnN.sl ot bt).mono fun _ _ => trivial, by omega, by omega⟩, by omega⟩
  · have hlt : i < P.length := by omega
    have hlt' : (i : Int) < P.length := by omega
    obtain ⟨b1, o1, row1, x1, x2, x3, x4⟩ := s.row (k := .i64) (by decide) hlt
    have x4 : row1 = [.int .i64 P[i]] := x4
    have x1 : idxAddrV 1 v0 (.int .i64 i) = some (.ptr b1 o1) := x1
    have x5 := x3 0 (by decide)
    rw [x4] at x5
    have x5 : loadAt H b1 o1 none = some (.int .i64 P[i]) := x5
    by_cases c1 : P[i] < 1
    · simp [n0, hlt, hlt', x1, x5, c1, kk]
    by_cases c2 : 1099511627776 < P[i]
    · simp [n0, hlt, hlt', x1, x5, c1, c2, kk]
    obtain ⟨c, hc⟩ : ∃ c : Int, c = 97 + (i : Int) := ⟨_, rfl⟩
    have w1 : IntKind.i64.wrap (97 + (i : Int)) = c := by rw [w64 (by omega) (by omega)]; exact hc.symm
    have w2 : IntKind.u8.wrap c = c := u8n (by omega) (by omega)
    have hcn : c.toNat = 97 + i := by omega
    have hwi : IntKind.i64.wrap ((i : Int) + 1) = ((i + 1 : Nat) : Int) := by rw [w64 (by omega) (by omega)]; omega
    have f1 : fillC [.int .u8 0] [(0, 1, .int .u8 c)] = some [.int .u8 c] := rfl
    obtain ⟨u, hu⟩ : ∃ u : UInt8, u = UInt8.ofNat (97 + i) := ⟨_, rfl⟩
    have ob : ofBytes [.int .u8 c] = some [u] := by simp only [ofBytes, hcn, hu]
    have f2 : fillC [.int .i64 0, .int .i64 0, .int .i64 0, .int .i64 0, .nils] [(0, 1, .int .i64 1), (1, 1, .int .i64 1)] = some [.int .i64 1, .int .i64 1, .int .i64 0, .int .i64 0, .nils] := rfl
    have f3 : fillC [.int .i64 0, .int .i64 0, .int .i64 0, .int .i64 0, .nils] [(0, 5, .agg [.int .i64 1, .int .i64 1, .int .i64 0, .int .i64 0, .nils])] = some [.int .i64 1, .int .i64 1, .int .i64 0, .int .i64 0, .nils] := rfl
    obtain ⟨A, hA⟩ : ∃ A : Obj, A = .arr [.int .u8 c] .tight := ⟨_, rfl⟩
    obtain ⟨B, hB⟩ : ∃ B : Obj, B = .arr [.int .i64 1, .int .i64 1, .int .i64 0, .int .i64 0, .nils] .tight := ⟨_, rfl⟩
    have hd : P.getD i 0 = P[i] := by simp [List.getD, hlt]
    obtain ⟨T, hT⟩ : ∃ T : List CV, T = tkL (tkG i P[i]) (.sl (H.length + 1) 0 1 1) := ⟨_, rfl⟩
    have f4 : fillC [.str [], .int .i64 0, .int .i64 0, .int .i64 0, .nils] [(0, 1, .str [u]), (1, 1, .int .i64 P[i]), (2, 1, .int .i64 P[i]), (3, 1, .int .i64 1), (4, 1, .sl (H.length + 1) 0 1 1)] = some T := by rw [hT, hu]; rfl
    have f5 : fillC [.str [], .int .i64 0, .int .i64 0, .int .i64 0, .nils] [(0, 5, .agg T)] = some T := by rw [hT]; rfl
    have hTl : T.length = 5 := by rw [hT]; rfl
    have hTt : List.take 5 T = T := List.take_of_length_le (by omega)
    have ce : cellsAt (H ++ [A]) H.length 0 1 = some [.int .u8 c] := by subst hA; simp [cellsAt]
    have kA : Keep NoneOf H (H ++ [A]) := Keep.app _ _ _
    have kAB : Keep NoneOf H (H ++ [A, B]) := Keep.app _ _ _
    have kABC : Keep NoneOf H (H ++ [A, B, .arr T .tight]) := Keep.app _ _ _
    have s0A := s.on kA
    have rA : ∀ {G : Heap}, Keep NoneOf H G → loadAt G b1 o1 none = some (.int .i64 P[i]) := fun {G} kG => by
      obtain ⟨b2, o2, row2, z1, z2, z3, z4⟩ := (s.on kG).row (k := .i64) (by decide) hlt
      have z4 : row2 = [.int .i64 P[i]] := z4
      have z1 : idxAddrV 1 v0 (.int .i64 i) = some (.ptr b2 o2) := z1
      have hq := x1.symm.trans z1
      simp only [Option.some.injEq, CV.ptr.injEq] at hq
      obtain ⟨rfl, rfl⟩ := hq
      have z5 := z3 0 (by decide)
      rw [z4] at z5
      exact z5
    have sp : spread (H ++ [A, B, .arr T .tight]) 5 (.sl (H.length + 2) 0 1 1) = some (1, T) := by
      simp [spread, cellsAt, hTl, hTt]
    have gg := lt_of_get g
    have rt : taskC.rep (H ++ [A, B, .arr T .tight]) (fun b => b = H.length + 1) T (tkG i P[i]) := by
      refine ⟨_, hT, [.int .i64 1, .int .i64 1, .int .i64 0, .int .i64 0, .nils], .inr ⟨H.length + 1, 0, 1, 1, [.int .i64 1, .int .i64 1, .int .i64 0, .int .i64 0, .nils], .tight, rfl, rfl, ?_, by decide, rfl⟩, ⟨Nat.le_refl _, fun b hb => by simp [CV.blk] at hb; exact hb.symm⟩, Rows.one ⟨.nils, rfl, Sl.nil⟩⟩
      rw [hB]; simp
    have e1 : (H ++ [A]).length + 1 = H.length + 2 := by simp
    simp [n0, hlt, hlt', x1, x5, c1, c2, l0, w1, w2, f1]
    rw [← hA]
    simp [ce, ob, rA kA, f2, f3]
    rw [← hB]
    simp [rA kAB, f4, f5]
    rw [sp]
    try simp only [OV_some]
    refine OV_pushN (e := taskC) (x := tkG i P[i]) (ot.on kABC) rt (fun b hb _ => ⟨by omega, fun hv => by have := ot.blk b hv; omega⟩) (by simp only [tkR_len]; simp [big]; omega) (by decide) ?_
    intro tv' H2 o2 k2 hb2
    have bt2 : ∀ b, tv'.blk = some b → h.length + 1 ≤ b := fun b hb => by
      rcases hb2 b hb with hq | hq
      · exact bt b hq
      · simp at hq; omega
    have g2 := k2.at (kABC.at g id) (fun hv => by have := bt _ hv; omega)
    have hs2 := OwnN.scalar o2
    have st2 := sto1 g2 (o := 2) (v := tv') (by simp) hs2
    have hset : ([.int .i64 0, .nils, tv] : List CV).set 2 tv' = [.int .i64 0, .nils, tv'] := rfl
    rw [hset] at st2
    have fs := fits_scalar hs2
    have cs := CV.cells_scalar hs2
    have ke : Keep (fun b => b = h.length) H2 (H2.set h.length (.arr [.int .i64 0, .nils, tv'] .tight)) := Keep.set _ _ rfl
    simp [fs, cs, st2, hwi]
    refine ⟨_, by omega, i + 1, tv', by omega, rfl, rfl, ((k.trans kABC).then k2 fun b hb e => by have := bt b e; omega).then ke fun b hb e => by omega, get_set_self (lt_of_get g2), ?_, bt2⟩
    rw [tkR_next, hd]
    exact OwnN.keep o2 ke (fun b hb e => by have := bt2 b hb; omega) (fun b hb _ _ e => by omega)

theorem Sl.keepI {k0 : IntKind} {h h' : Heap} {P S : Nat → Prop} {v : CV} {l : List Int} (s : Sl (.int k0) h P v l) (k : Keep S h h') (hv : ∀ b, v.blk = some b → ¬ S b) : Sl (.int k0) h' P v l := by
  obtain ⟨c, r, ⟨ok, q⟩, rs⟩ := s
  exact ⟨c, r.keep k hv, ⟨ok, q⟩, rows_ints.2 (rows_ints.1 rs)⟩

theorem RgAt.keep {S : Nat → Prop} {h h' : Heap} {m : Nat} {pv lv : CV} {P L : List Int} {now : Int} (a : RgAt h m pv lv P L now) (k : Keep S h h') (hm : ¬ S m) (hp : ∀ b, pv.blk = some b → ¬ S b) (hl : ∀ b, lv.blk = some b → ¬ S b) : RgAt h' m pv lv P L now :=
  ⟨k.at a.obj hm, a.per.keepI k hp, a.las.keep k hl fun _ hb => hb.elim, a.apart⟩

/-- both guards -/
structure GqH (h : Heap) (P : List Int) (g mb m : Nat) (pv rp lv : CV) (L : List Int) (now : Int) (h' : Heap) : Prop where
  k : Keep NoneOf h h'
  ga : GuardAt h' g pv mb P (lastF L) now
  ra : RgAt h' m rp lv P L now
  n : L.length = P.length
  g0 : h.length ≤ g
  b0 : h.length ≤ mb
  m0 : h.length ≤ m
  d1 : m ≠ g
  d2 : m ≠ mb
  dr : ∀ b, rp.blk = some b → b ≠ g ∧ b ≠ mb
  dl : ∀ b, lv.blk = some b → b ≠ g ∧ b ≠ mb
  dp : ∀ b, pv.blk = some b → b ≠ m

theorem GqH.on {h h1 h2 : Heap} {P : List Int} {g mb m : Nat} {pv rp lv : CV} {L : List Int} {now : Int} (q : GqH h P g mb m pv rp lv L now h1) (k : Keep NoneOf h1 h2) : GqH h P g mb m pv rp lv L now h2 :=
  ⟨q.k.trans k, q.ga.keep k id id fun _ _ => id, q.ra.keep k id (fun _ _ => id) fun _ _ => id, q.n, q.g0, q.b0, q.m0, q.d1, q.d2, q.dr, q.dl, q.dp⟩

theorem GqH.lt {h h1 : Heap} {P : List Int} {g mb m : Nat} {pv rp lv : CV} {L : List Int} {now : Int} (q : GqH h P g mb m pv rp lv L now h1) : g < h1.length ∧ mb < h1.length ∧ m < h1.length :=
  ⟨lt_of_get q.ga.obj, q.ga.map.lt, lt_of_get q.ra.obj⟩

def GqI (h : Heap) (v1 : CV) (P : List Int) (l : List ActV) (m : Nat) (e : Env) (h' : Heap) : Prop :=
  ∃ (i g mb mm : Nat) (pv rp lv : CV) (L : List Int) (now : Int), i ≤ l.length ∧ m = l.length - i ∧ e = [(1, v1), (7, .ptr g 0), (8, .ptr mm 0), (9, .int .i64 i)] ∧ GqH h P g mb mm pv rp lv L now h'

def GqM (h : Heap) (v1 : CV) (P : List Int) (c : ActV) (i b : Nat) (e : Env) (h' : Heap) : Prop :=
  ∃ (g mb mm : Nat) (pv rp lv : CV) (L : List Int) (now : Int) (r : Env), e = (1, v1) :: (7, .ptr g 0) :: (8, .ptr mm 0) :: (9, .int .i64 i) :: (10, .ptr b 0) :: r ∧ GqH h P g mb mm pv rp lv L now h' ∧ h'[b]? = some (.arr (acL c) .tight) ∧ b ≠ g ∧ b ≠ mb ∧ b ≠ mm

theorem lastR_ext (o : Option Int) : ∃ a b, lastR o = .tup [.int .i64 a, .bool b] := by cases o <;> exact ⟨_, _, rfl⟩

theorem guardPlays_tail (hpg : p.Pg = S.pg) (hpr : p.pr = addKnown [4] cloneLib) {h h1 : Heap} {v1 : CV} {P : List Int} {l : List ActV} {e : Env} (m0 : GpM h v1 P e h1) (hl : l.length ≤ 60) (s1 : Sl actC h (fun b => b < h.length) v1 l) :
    W p (back 5 S.b9) e h1 (retQ [.t 4] fun r _ => r = .bool true) := by
  have no : ∀ f, ([4] : List Nat).contains f = false → (cloneLib f).isNone = true → p.pr f = none := fun f hf hn => by
    rw [hpr]
    show (match ([4] : List Nat).contains f with | true => _ | false => cloneLib f) = none
    rw [hf]
    cases hc : cloneLib f with
    | none => rfl
    | some g => rw [hc] at hn; cases hn
  have q54 : p.pr 54 = some p54 := by rw [hpr]; rfl
  obtain ⟨tv, v0, r, rfl, k, g, st, p1, p12⟩ := m0
  unfold S.b9
  simp only [back]
  have ca : ∀ l, (CV.agg l).cells = l := fun _ => rfl
  have w := ldw g (show ([.int .i64 0, .nils, tv] : List CV).length = 3 from rfl)
  have hper : (tkR P P.length).map TaskV.per = P := tkR_per
  simp [w]
  refine (new_spec (by rw [hpg]; exact S.pg5) (no 5 rfl rfl) (tasksAt st) (by simp [tkR_len, big]; omega)).mono ?_
  rintro r H1 ⟨g1, pv, mb, rfl, ga, k1, hg1, hmb1, hpv1⟩
  rw [hper] at ga
  have k1 : Keep NoneOf h1 H1 := k1.mono fun _ _ hn => hn.elim
  have w := ldw (k1.at g id) (show ([.int .i64 0, .nils, tv] : List CV).length = 3 from rfl)
  simp [w]
  have rs : setC.rep H1 Any [.int .i64 0, .nils, tv] ⟨0, [], tkR P P.length⟩ := ⟨.nils, tv, rfl, Sl.nil, st.on k1⟩
  have hfit : SetV.Fit ⟨0, [], tkR P P.length⟩ := by
    refine ⟨by simp, by simp only [tkR_len]; omega, fun t ht => ?_⟩
    simp only [tkR, List.mem_map, List.mem_range] at ht
    obtain ⟨i, hi, rfl⟩ := ht
    simp [tkG]
  refine (setOf_spec hpg (no 10 rfl rfl) (no 53 rfl rfl) (no 32 rfl rfl) rs hfit).mono ?_
  rintro r H2 ⟨k2, d, rfl, rd⟩
  try simp
  refine (refNew_spec hpg (no 11 rfl rfl) rd (by simp only [tkR_len]; omega)).mono ?_
  rintro r H3 ⟨rfl, k3, rp, lv, ra, hrp, hlv⟩
  simp only at ra
  rw [hper, tkR_len] at ra
  have k13 := k2.trans k3
  have ga3 := ga.keep k13 id id fun _ _ => id
  have hl12 := k2.len
  have hlg := lt_of_get ga.obj
  have hlm := ga.map.lt
  have hlr : lastF (List.replicate P.length (-1)) = fun _ => none := by
    funext x
    unfold lastF
    split
    · rename_i hx
      rw [List.length_replicate] at hx
      obtain ⟨j, rfl⟩ := Int.eq_ofNat_of_zero_le hx.1
      have hj : j < P.length := by omega
      simp [List.getD, hj]
    · rfl
  have q : GqH h P g1 mb (H2.length + 1) pv rp lv (List.replicate P.length (-1)) 0 H3 := by
    have hkl := (k.trans k1).len
    have hk0 := k.len
    refine ⟨((k.trans k1).trans k2).trans k3, by rw [hlr]; exact ga3, ra, by simp, by omega, by omega, by omega, by omega, by omega, fun b hb => by have := hrp b hb; omega, fun b hb => by have := hlv b hb; omega, fun b hb => ?_⟩
    have := ga.per.blk_lt b hb
    omega
  try simp
  generalize H2.length + 1 = mm at *
  generalize List.replicate P.length (-1) = L0 at *
  refine W_loop (GqI h v1 P l) ?_ l.length ⟨0, g1, mb, mm, pv, rp, lv, L0, 0, by omega, by omega, rfl, q⟩
  clear q ra ga3 hlr ga
  rintro m e H ⟨i, g, mb, mm, pv, rp, lv, L, now, hi, rfl, rfl, q⟩
  have s := s1.on q.k
  have n1 := s.len (by decide)
  by_cases hie : i = l.length
  · subst hie
    simp [n1]
  have hlt : i < l.length := by omega
  have hlt' : (i : Int) < l.length := by omega
  obtain ⟨b1, o1, row, x1, x2, x3, x4⟩ := s.row (k := .i64) (by decide) hlt
  have x4 : row = acL l[i] := x4
  simp only [actC] at x1 x2
  rw [x4] at x2
  have hwi : IntKind.i64.wrap ((i : Int) + 1) = ((i + 1 : Nat) : Int) := by rw [w64 (by omega) (by omega)]; omega
  generalize hC : l[i] = C at *
  have hcl : (acL C).length = 4 := rfl
  have stc := store_new (h := H) (row := acL C) (z := [.int .i64 0, .int .i64 0, .bool false, .bool false]) rfl rfl
  have kap : Keep NoneOf H (H ++ [.arr (acL C) .tight]) := Keep.app _ _ _
  have gC : (H ++ [Obj.arr (acL C) .tight])[H.length]? = some (.arr (acL C) .tight) := by simp
  have q2 := q.on kap
  have hq := q.lt
  have lC := ld gC
  have e0 : ∀ c : ActV, (acL c)[0]? = some (.int .i64 c.task) := fun _ => rfl
  have e1 : ∀ c : ActV, (acL c)[1]? = some (.int .i64 c.now) := fun _ => rfl
  have e2 : ∀ c : ActV, (acL c)[2]? = some (.bool c.live) := fun _ => rfl
  have e3 : ∀ c : ActV, (acL c)[3]? = some (.bool c.twin) := fun _ => rfl
  have d3 : ∀ (c : ActV) (hh : 3 < (acL c).length), (acL c)[3] = .bool c.twin := fun _ _ => rfl
  have hfit4 : fits (some 4) (.agg (acL C)) = true := rfl
  simp [n1, hlt, hlt', x1, x2, ca, hfit4, stc]
  generalize hbb : H.length = b at *
  generalize H ++ [Obj.arr (acL C) .tight] = H0 at *
  simp [lC, e3]
  refine W_to (GqM h v1 P C i b) ?_ ?_
  · cases hT : C.twin with
    | false =>
      simp
      exact ⟨g, mb, mm, pv, rp, lv, L, now, _, rfl, q2, gC, by omega, by omega, by omega⟩
    | true =>
      simp
      refine (twin_spec hpg (no 12 rfl rfl) q54 q2.ga).mono ?_
      rintro r H1 ⟨rfl, gt, kt⟩
      have q3 := q2.on kt
      have gC1 := kt.at gC id
      have lC1 := ld gC1
      have hq3 := q2.lt
      have hb0 := lt_of_get gC
      simp [lC1, e0]
      refine (ask_spec (by rw [hpg]; exact S.pg6) (no 6 rfl rfl) q3.ga C.task 1099511627776 false).mono ?_
      rintro r H2 ⟨rfl, _, ka, hlen⟩
      have gt2 := gt.keep ka (fun hn => by rcases hn with hn | hn <;> omega) (fun hn => by rcases hn with hn | hn <;> omega) (fun b hb hn => by have := q3.ga.apart b hb; rcases hn with hn | hn <;> simp_all)
      have ra2 := q3.ra.keep ka (fun hn => by rcases hn with hn | hn; exact q3.d1 hn; exact q3.d2 hn) (fun b hb hn => by have := q3.dr b hb; rcases hn with hn | hn <;> simp_all) (fun b hb hn => by have := q3.dl b hb; rcases hn with hn | hn <;> simp_all)
      have hk2 := q2.k.len
      refine ⟨H0.length + 1, H0.length, mm, pv, rp, lv, L, now, _, rfl, ⟨q3.k.then ka fun b hb hn => by have := q.g0; have := q.b0; rcases hn with hn | hn <;> omega, gt2, ra2, q.n, by omega, by omega, q.m0, by omega, by omega, fun b hb => ?_, fun b hb => ?_, q.dp⟩, ka.at gC1 (fun hn => by rcases hn with hn | hn <;> omega), by omega, by omega, by omega⟩
      · obtain ⟨_, rr, _, _⟩ := q2.ra.per
        have := rr.blk_lt b hb
        omega
      · have := q2.ra.las.blk b hb
        omega
  clear q q2 gC lC kap stc
  rintro e' H1 ⟨g, mb, mm, pv, rp, lv, L, now, r, rfl, q, gC, db1, db2, db3⟩
  have lC := ld gC
  simp [lC, e0, e1, e2]
  refine WO_re_n ?_
  simp
  refine (ask_spec (by rw [hpg]; exact S.pg6) (no 6 rfl rfl) q.ga C.task C.now C.live).mono ?_
  rintro r H2 ⟨rfl, hga, ka, hlen⟩
  have gC2 := ka.at gC (fun hn => by rcases hn with hn | hn; exact db1 hn; exact db2 hn)
  have lC2 := ld gC2
  have ra2 := q.ra.keep ka (fun hn => by rcases hn with hn | hn; exact q.d1 hn; exact q.d2 hn) (fun b hb hn => by have := q.dr b hb; rcases hn with hn | hn <;> simp_all) (fun b hb hn => by have := q.dl b hb; rcases hn with hn | hn <;> simp_all)
  refine ⟨fun c => by simp [recheckB, wanted, Env.get, cls, evOp, Opd.ev, withH, CV.eqb, lC2, e0, e1, e2, CV.eqb_refl], ?_⟩
  refine (refAsk_spec hpg (no 13 rfl rfl) ra2 q.n.symm (by have := q.n; omega) C.task C.now C.live).mono ?_
  rintro r H3 ⟨rfl, kr, lv', ra3, hlv'⟩
  obtain ⟨A, hA⟩ : ∃ A, A = askE P (lastF L) now C.task C.now C.live := ⟨_, rfl⟩
  rw [← hA] at hga ra3 ⊢
  obtain ⟨L', hL'⟩ : ∃ L', L' = if A = 0 then L.set C.task.toNat C.now else L := ⟨_, rfl⟩
  obtain ⟨now', hn'⟩ : ∃ now', now' = if A = 0 then C.now else now := ⟨_, rfl⟩
  rw [← hL', ← hn'] at ra3
  have ga2 : GuardAt H2 g pv mb P (lastF L') now' := by
    by_cases h0 : A = 0
    · rw [if_pos h0] at hga hL' hn'
      have hask : ¬ (C.task < 0 ∨ (P.length : Int) ≤ C.task) ∧ ¬ (C.now < now ∨ C.now < 0 ∨ 1099511627776 < C.now) := by
        rw [h0] at hA
        unfold askE at hA
        split at hA
        · omega
        · split at hA
          · omega
          · rename_i u1 u2
            exact ⟨u1, u2⟩
      obtain ⟨j, hj⟩ := Int.eq_ofNat_of_zero_le (show 0 ≤ C.task by omega)
      have hjL : j < L.length := by have := q.n; omega
      rw [hL', hn', hj, Int.toNat_natCast, lastF_upd hjL (by omega)]
      rw [hj] at hga
      exact hga
    · rw [if_neg h0] at hga hL' hn'
      rw [hL', hn', hga]
      exact q.ga
  have hL'n : L'.length = P.length := by
    rw [hL']
    split
    · rw [List.length_set]; exact q.n
    · exact q.n
  have ga3 := ga2.keep kr (fun hn => q.d1 hn.symm) (fun hn => q.d2 hn.symm) (fun b hb hn => q.dp b hb hn)
  have gC3 := kr.at gC2 (fun hn => db3 hn)
  have lC3 := ld gC3
  have hlk := ka.len
  have q3 : GqH h P g mb mm pv rp lv' L' now' H3 := by
    refine ⟨(q.k.then ka fun b hb hn => by have := q.g0; have := q.b0; rcases hn with hn | hn <;> omega).then kr fun b hb hn => by have := q.m0; omega, ga3, ra3, hL'n, q.g0, q.b0, q.m0, q.d1, q.d2, q.dr, fun b hb => ?_, q.dp⟩
    rcases hlv' b hb with hz | hz
    · exact q.dl b hz
    · have := q.lt; omega
  clear hga ga2 ga3 ra2 ra3 q hA hL' hn' ka kr lC lC2 gC gC2
  simp [lC3, e0]
  refine (last_spec (by rw [hpg]; exact S.pg8) (no 8 rfl rfl) q3.ga C.task).mono ?_
  rintro r H4 ⟨rfl, hr⟩
  have hr : r = lastR (lastF L' C.task) := hr
  obtain ⟨a, bo, hab⟩ := lastR_ext (lastF L' C.task)
  rw [hab] at hr
  subst hr
  simp [lC3, e0]
  refine (refLast_spec hpg (no 14 rfl rfl) q3.ra C.task).mono ?_
  rintro r H5 ⟨rfl, hr⟩
  rw [hab] at hr
  subst hr
  simp [hwi]
  exact ⟨_, by omega, i + 1, g, mb, mm, pv, rp, lv', L', now', by omega, rfl, rfl, q3⟩

theorem guardPlays_law (hpg : p.Pg = S.pg) (hpr : p.pr = addKnown [4] cloneLib) {h : Heap} {v0 v1 : CV} {P : List Int} {l : List ActV} (s0 : Sl (.int .i64) h (fun b => b < h.length) v0 P) (s1 : Sl actC h (fun b => b < h.length) v1 l) : WF p 9 [v0, v1] h fun r _ => r = .bool true := by
  refine WF_of (by rw [hpg]; exact S.pg9) (by rw [hpr]; rfl) ?_
  show W p S.b9 [(0, v0), (1, v1)] h (retQ [.t 4] fun r _ => r = .bool true)
  refine W_front 5 _ _ (guardPlays_head hpg hpr s0 s1 fun _ => rfl) fun e h1 m1 => ?_
  exact guardPlays_tail hpg hpr m1.1 m1.2 s1

def actTy : Ty := .cons (.int .i64) (.cons (.int .i64) (.cons .bool (.cons .bool .nil)))

theorem tellsAct : Tells actTy actC fun _ => True := by
  refine ⟨rfl, fun h c s => ?_⟩
  obtain ⟨c1, c', rfl, s1, s⟩ := sh_cons s
  obtain ⟨c2, c', rfl, s2, s⟩ := sh_cons s
  obtain ⟨c3, c', rfl, s3, s⟩ := sh_cons s
  obtain ⟨c4, c', rfl, s4, s⟩ := sh_cons s
  have e := sh_nil s
  subst e
  obtain ⟨a, rfl, _⟩ := sh_int s1
  obtain ⟨b, rfl, _⟩ := sh_int s2
  obtain ⟨d, rfl⟩ := sh_bool s3
  obtain ⟨f, rfl⟩ := sh_bool s4
  exact ⟨⟨a, b, d, f⟩, rfl, trivial⟩

end Go.Cl
