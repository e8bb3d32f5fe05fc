/-
  Texts laid together: AXF.
-/
import Derived.Test.YtlndogibbgibgaaGreatDoorMO
namespace Go.Cl
open Go
set_option linter.unusedSimpArgs false
set_option linter.unusedVariables false
set_option maxHeartbeats 1000000
variable {p : PP} {K : CoreW} {cells : List CV} {x : SetV} {s : CoreX} {Q : Nat → Prop} {h h' : Heap}
def CoreU (K : CoreW) (x : SetV) (s : CoreX) (Q : Nat → Prop) (h h' : Heap) : Prop :=
 Keep K.own h h' ∧ ∃ Q' cells, CoreV K cells x s Q' h' ∧ ∀ y, Q' y → Q y ∨ h.length ≤ y
theorem CoreV.lock (c : CoreV K cells x s Q h) {b : Nat} (hb : b ∈ K.lb) : ∃ o, h[b]? = some (.arr [.int .i64 o, .nils] .tight) := by
 obtain ⟨i, hi⟩ := List.mem_iff_getElem?.1 hb
 have hlt := (List.getElem?_eq_some_iff.1 hi).1
 have := c.ll
 exact ⟨s.own[i], c.lo i b _ hi (List.getElem?_eq_getElem (by omega))⟩
theorem CoreV.own_lt (c : CoreV K cells x s Q h) : ∀ y, K.own y → y < h.length := by
 rintro y (rfl | rfl | rfl | rfl | rfl | hy)
 ·exact lt_of_get c.g
 ·exact lt_of_get c.jg
 ·exact lt_of_get c.gd.obj
 ·exact c.gd.map.lt
 ·exact lt_of_get c.tg
 ·obtain ⟨o, g⟩ := c.lock hy; exact lt_of_get g
theorem CoreV.keep {S : Nat → Prop} (c : CoreV K cells x s Q h) (k : Keep S h h') (hS : ∀ y, S y → ¬ K.own y ∧ ¬ Q y) : CoreV K cells x s Q h' where
 g := k.at c.g fun e => (hS _ e).1 (.inl rfl)
 jg := k.at c.jg fun e => (hS _ e).1 (.inr (.inl rfl))
 tg := k.at c.tg fun e => (hS _ e).1 (.inr (.inr (.inr (.inr (.inl rfl)))))
 gd := c.gd.keep k (fun e => (hS _ e).1 (.inr (.inr (.inl rfl)))) (fun e => (hS _ e).1 (.inr (.inr (.inr (.inl rfl))))) fun b hb e => (hS _ e).2 (c.pQ _ hb)
 ts := c.ts.keep k fun b hb e => (hS _ e).2 hb
 bs := c.bs.keep k fun b hb e => (hS _ e).2 hb
 cs := c.cs.keep k fun b hb e => (hS _ e).2 hb
 rs := c.rs.keep k fun b hb e => (hS _ e).2 hb
 jl := c.jl
 ls := c.ls.keep k fun b hb e => (hS _ e).2 hb
 ll := c.ll
 lo := fun i b o hb ho => k.at (c.lo i b o hb ho) fun e => (hS _ e).1 (.inr (.inr (.inr (.inr (.inr (List.mem_of_getElem? hb))))))
 ldd := c.ldd
 a1 := c.a1
 a2 := c.a2
 a3 := c.a3
 a4 := c.a4
 a5 := c.a5
 a6 := c.a6
 a7 := c.a7
 a8 := c.a8
 a9 := c.a9
 al := c.al
 hQ := fun y hy => ⟨by have := (c.hQ y hy).1; have := k.len; omega, (c.hQ y hy).2⟩
 pQ := c.pQ
theorem CoreV.on (c : CoreV K cells x s Q h) (k : Keep NoneOf h h') : CoreV K cells x s Q h' := c.keep k fun _ => False.elim
theorem CoreV.wide {Q' : Nat → Prop} (c : CoreV K cells x s Q h) (hQ : ∀ y, Q y → Q' y) (hQ' : ∀ y, Q' y → y < h.length ∧ ¬ K.own y) : CoreV K cells x s Q' h :=
 { c with ts := c.ts.mono hQ, bs := c.bs.mono hQ, cs := c.cs.mono hQ, rs := c.rs.mono hQ, ls := c.ls.mono hQ, hQ := hQ', pQ := fun y hy => hQ y (c.pQ y hy) }
theorem CoreV.grow {N : Nat} (c : CoreV K cells x s Q h) (hN : ∀ y, K.own y → y < N) : CoreV K cells x s (fun y => Q y ∨ (N ≤ y ∧ y < h.length)) h :=
 c.wide (fun _ => .inl) fun y hy => hy.elim (fun hy => c.hQ y hy) fun hy => ⟨hy.2, fun o => by have := hN y o; omega⟩
theorem CoreV.jobN (c : CoreV K cells x s Q h) : cells.length = x.tasks.length * 10 := by
 have := c.rs.1
 rw [c.jl] at this
 exact this
theorem CoreV.setJob (c : CoreV K cells x s Q h) {i : Nat} (hi : i < x.tasks.length) {row : List CV} {z : JobV} (r : jobC.rep h Q row z) :
  CoreV K (splice cells (i * 10) row) x { s with jobs := s.jobs.set i z } Q (h.set K.jb (.arr (splice cells (i * 10) row) .tight)) := by
 have k : Keep (fun y => y = K.jb) h (h.set K.jb (.arr (splice cells (i * 10) row) .tight)) := Keep.set _ _ rfl
 have q : ∀ y, Q y → ¬ y = K.jb := fun y hy e => (c.hQ y hy).2 (.inr (.inl e))
 exact { c with
  g := k.at c.g c.a1, jg := get_set_self (lt_of_get c.jg), tg := k.at c.tg c.a7.symm, gd := c.gd.keep k c.a5.symm c.a6.symm fun y hy => q y (c.pQ y hy), ts := c.ts.keep k q, bs := c.bs.keep k q, cs := c.cs.keep k q
  rs := (rows_set (e := jobC) c.rs (by have := c.jl; omega) r).keep k q, jl := by simpa using c.jl, ls := c.ls.keep k q
  lo := fun i b o hb ho => k.at (c.lo i b o hb ho) (c.al b (List.mem_of_getElem? hb)).2.1
  hQ := fun y hy => by simpa using c.hQ y hy }
theorem CoreV.setNow (c : CoreV K cells x s Q h) (now seq : Int) :
  CoreV K cells x { s with now := now, seq := seq } Q (h.set K.b (.arr [.int .i64 x.locks, .nils, K.tv, K.bv, K.cev, .sl K.jb 0 x.tasks.length x.tasks.length, .nils, K.lpv, .ptr K.gb 0, .ptr K.tb 0, .int .i64 now, .int .i64 seq] .tight)) := by
 have k : Keep (fun y => y = K.b) h (h.set K.b (.arr [.int .i64 x.locks, .nils, K.tv, K.bv, K.cev, .sl K.jb 0 x.tasks.length x.tasks.length, .nils, K.lpv, .ptr K.gb 0, .ptr K.tb 0, .int .i64 now, .int .i64 seq] .tight)) := Keep.set _ _ rfl
 have q : ∀ y, Q y → ¬ y = K.b := fun y hy e => (c.hQ y hy).2 (.inl e)
 exact { c with
  g := get_set_self (lt_of_get c.g), jg := k.at c.jg c.a1.symm, tg := k.at c.tg c.a4.symm, gd := c.gd.keep k c.a2.symm c.a3.symm fun y hy => q y (c.pQ y hy), ts := c.ts.keep k q, bs := c.bs.keep k q, cs := c.cs.keep k q
  rs := c.rs.keep k q, ls := c.ls.keep k q, lo := fun i b o hb ho => k.at (c.lo i b o hb ho) (c.al b (List.mem_of_getElem? hb)).1, hQ := fun y hy => by simpa using c.hQ y hy }
theorem CoreV.setGuard {f : Int → Option Int} {gn : Int} (c : CoreV K cells x s Q h) (k : Keep (fun y => y = K.gb ∨ y = K.mb) h h') (gd : GuardAt h' K.gb K.pv K.mb (x.tasks.map (·.per)) f gn) : CoreV K cells x { s with f := f, gn := gn } Q h' := by
 have q : ∀ y, Q y → ¬ (y = K.gb ∨ y = K.mb) := fun y hy e => (c.hQ y hy).2 (.inr (.inr (e.imp id .inl)))
 exact { c with
  g := k.at c.g fun e => by have := c.a2; have := c.a3; omega
  jg := k.at c.jg fun e => by have := c.a5; have := c.a6; omega
  tg := k.at c.tg fun e => by have := c.a8; have := c.a9; omega
  gd := gd, ts := c.ts.keep k q, bs := c.bs.keep k q, cs := c.cs.keep k q, rs := c.rs.keep k q, ls := c.ls.keep k q
  lo := fun i b o hb ho => k.at (c.lo i b o hb ho) fun e => by have := c.al b (List.mem_of_getElem? hb); omega
  hQ := fun y hy => ⟨by have := (c.hQ y hy).1; have := k.len; omega, (c.hQ y hy).2⟩ }
theorem CoreV.setLock (c : CoreV K cells x s Q h) {i b : Nat} (hi : K.lb[i]? = some b) (o : Int) :
  CoreV K cells x { s with own := s.own.set i o } Q (h.set b (.arr [.int .i64 o, .nils] .tight)) := by
 have k : Keep (fun y => y = b) h (h.set b (.arr [.int .i64 o, .nils] .tight)) := Keep.set _ _ rfl
 have hm := List.mem_of_getElem? hi
 have hil := (List.getElem?_eq_some_iff.1 hi).1
 obtain ⟨l1, l2, l3, l4, l5⟩ := c.al b hm
 have q : ∀ y, Q y → ¬ y = b := fun y hy e => (c.hQ y hy).2 (.inr (.inr (.inr (.inr (.inr (e ▸ hm))))))
 obtain ⟨o0, g0⟩ := c.lock hm
 have hll := c.ll
 exact { c with
  g := k.at c.g fun e => l1 e.symm, jg := k.at c.jg fun e => l2 e.symm, tg := k.at c.tg fun e => l5 e.symm, gd := c.gd.keep k (fun e => l3 e.symm) (fun e => l4 e.symm) fun y hy => q y (c.pQ y hy), ts := c.ts.keep k q, bs := c.bs.keep k q, cs := c.cs.keep k q
  rs := c.rs.keep k q, ls := c.ls.keep k q, ll := by simpa using c.ll
  lo := fun j b' o' hb ho => by
   by_cases hji : j = i
   ·subst hji
    rw [hi] at hb
    obtain rfl := Option.some.inj hb
    rw [List.getElem?_set_self (by omega)] at ho
    obtain rfl := Option.some.inj ho
    exact get_set_self (lt_of_get g0)
   ·rw [List.getElem?_set_ne (by omega)] at ho
    refine k.at (c.lo j b' o' hb ho) fun e => hji ?_
    subst e
    have hjl := (List.getElem?_eq_some_iff.1 hb).1
    have h1 := (List.getElem?_eq_some_iff.1 hb).2
    have h2 := (List.getElem?_eq_some_iff.1 hi).2
    rcases Nat.lt_trichotomy j i with q | q | q
    ·exact absurd (h1.trans h2.symm) (List.pairwise_iff_getElem.1 c.ldd j i hjl hil q)
    ·exact q
    ·exact absurd (h2.trans h1.symm) (List.pairwise_iff_getElem.1 c.ldd i j hil hjl q)
  hQ := fun y hy => by simpa using c.hQ y hy }
theorem CoreU.refl (c : CoreV K cells x s Q h) : CoreU K x s Q h h := ⟨Keep.refl _ _, Q, cells, c, fun y => .inl⟩
theorem CoreU.same (c : CoreV K cells x s Q h) (k : Keep NoneOf h h') : CoreU K x s Q h h' := ⟨k.mono fun _ _ => False.elim, Q, cells, c.on k, fun y => .inl⟩
theorem CoreU.on {h2 : Heap} (n : CoreU K x s Q h h') (k : Keep NoneOf h' h2) : CoreU K x s Q h h2 := by
 obtain ⟨k1, Q', cs, c, q⟩ := n
 exact ⟨k1.trans (k.mono fun _ _ => False.elim), Q', cs, c.on k, q⟩
theorem CoreU.from {h1 : Heap} (k : Keep NoneOf h h1) (n : CoreU K x s Q h1 h') : CoreU K x s Q h h' := by
 obtain ⟨k1, Q', cs, c, q⟩ := n
 exact ⟨(k.mono fun _ _ => False.elim).trans k1, Q', cs, c, fun y hy => (q y hy).imp id fun e => by have := k.len; omega⟩
theorem CoreU.then {h2 : Heap} {s2 : CoreX} (n : CoreU K x s Q h h') (f : ∀ Q' cells, CoreV K cells x s Q' h' → (∀ y, Q' y → Q y ∨ h.length ≤ y) → CoreU K x s2 Q' h' h2) : CoreU K x s2 Q h h2 := by
 obtain ⟨k1, Q', cs, c, q⟩ := n
 obtain ⟨k2, Q2, cs2, c2, q2⟩ := f Q' cs c q
 refine ⟨k1.trans k2, Q2, cs2, c2, fun y hy => ?_⟩
 rcases q2 y hy with e | e
 ·exact q y e
 ·have := k1.len; exact .inr (by omega)
theorem CoreV.row (c : CoreV K cells x s Q h) {i : Nat} (hi : i < x.tasks.length) : ∃ z fv hv, s.jobs[i]? = some z ∧ (cells.drop (i * 10)).take 10 = jobCells z fv hv ∧ Sl opC h Q fv z.flat ∧ Sl (.int .i64) h Q hv z.held ∧
  idxAddrV 10 (.sl K.jb 0 x.tasks.length x.tasks.length) (.int .i64 (i : Int)) = some (.ptr K.jb (i * 10)) ∧ (∀ k, k < 10 → cells[i * 10 + k]? = (jobCells z fv hv)[k]?) ∧ i * 10 + 10 ≤ cells.length := by
 have hn : i < s.jobs.length := by have := c.jl; omega
 obtain ⟨fv, hv, e, s1, s2⟩ := c.rs.2 i s.jobs[i] (List.getElem?_eq_getElem hn)
 have h10 : jobC.n = 10 := rfl
 rw [h10] at e
 have hcl := c.jobN
 refine ⟨s.jobs[i], fv, hv, List.getElem?_eq_getElem hn, e, s1, s2, ?_, fun k hk => ?_, by omega⟩
 ·rw [idxAddrV_sl, if_pos ⟨by omega, by omega⟩]; simp
 ·rw [← e, List.getElem?_take_of_lt hk, List.getElem?_drop]
theorem CoreV.rowAt (c : CoreV K cells x s Q h) {i : Nat} (hi : i < x.tasks.length) {z : JobV} (hz : s.jobs[i]? = some z) : ∃ fv hv, (cells.drop (i * 10)).take 10 = jobCells z fv hv ∧ jobC.rep h Q (jobCells z fv hv) z ∧ Sl opC h Q fv z.flat ∧ Sl (.int .i64) h Q hv z.held ∧
  idxAddrV 10 (.sl K.jb 0 x.tasks.length x.tasks.length) (.int .i64 (i : Int)) = some (.ptr K.jb (i * 10)) ∧ (∀ k, k < 10 → loadAt h K.jb (i * 10 + k) none = (jobCells z fv hv)[k]?) ∧ loadAt h K.jb (i * 10) (some 10) = some (.agg (jobCells z fv hv)) := by
 obtain ⟨y, fv, hv, hy, e, s1, s2, hix, hc, hbd⟩ := c.row hi
 obtain rfl : z = y := by rw [hz] at hy; exact Option.some.inj hy
 exact ⟨fv, hv, e, ⟨fv, hv, rfl, s1, s2⟩, s1, s2, hix, fun k hk => by rw [ld c.jg, hc k hk], by rw [ldn c.jg, if_pos hbd, e]⟩
theorem CoreV.stJob (c : CoreV K cells x s Q h) {i : Nat} {row : List CV} {z : JobV} (hi : i < x.tasks.length) (r : jobC.rep h Q row z) : storeAt h K.jb (i * 10) row = some (h.set K.jb (.arr (splice cells (i * 10) row) .tight)) := by
 have dl : row.length = 10 := jobC.len r
 have := c.jobN
 rw [stt c.jg, if_pos ⟨by rw [dl]; omega, jobC.flat r⟩]
end Go.Cl
