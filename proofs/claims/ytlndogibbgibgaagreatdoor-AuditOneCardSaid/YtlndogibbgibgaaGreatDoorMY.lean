/-
  Texts laid together: ALog.
-/
import Derived.Test.YtlndogibbgibgaaGreatDoorMN
import Derived.Test.YtlndogibbgibgaaGreatDoorMH
import Derived.Test.YtlndogibbgibgaaGreatDoorMI
import Derived.Test.YtlndogibbgibgaaGreatDoorMF1
import Derived.Test.YtlndogibbgibgaaGreatDoorM3
namespace Go.Cl
open Go
set_option linter.unusedSimpArgs false
set_option linter.unusedVariables false
set_option maxHeartbeats 1000000
structure LogV where
 task : Int
 begin : Int
 fin : Int
 ended : Bool
 aborted : Bool
 ran : Int
 blk : Int
 deriving DecidableEq
def logL (x : LogV) : List CV := [.int .i64 x.task, .int .i64 x.begin, .int .i64 x.fin, .bool x.ended, .bool x.aborted, .int .i64 x.ran, .int .i64 x.blk]
def logC : Cod LogV where
 n := 7
 rep _ _ c x := c = logL x
 len e := by subst e; rfl
 flat e := by subst e; rfl
 mono e _ := e
 keep e _ _ := e
 lt e := e
abbrev OpE := Int × Int × Nat
def mkE (x : OpE) : MapE := (.int .i64 x.1, .int .i64 x.2.1, x.2.2)
def fixK (k : Int) : List OpE → Nat → Option (Nat × Int × Nat)
 | [], _ => none
 | x :: r, i => if k = x.1 then some (i, x.2.1, x.2.2) else fixK k r (i + 1)
theorem findKey_mk {k : Int} : ∀ {op : List OpE} {j : Nat}, findKey .i (.int .i64 k) (op.map mkE) j = some ((fixK k op j).map fun q => (q.1, .int .i64 q.2.1, q.2.2))
 | [], j => rfl
 | x :: r, j => by
   obtain ⟨k', v, b⟩ := x
   simp only [List.map_cons, mkE, findKey, eqKind, fixK, if_true]
   by_cases h : k = k'
   ·subst h; simp
   ·have : (k == k') = false := by simpa using h
    rw [this, if_neg h]
    exact findKey_mk
def putK (op : List OpE) (c : Nat) (k v : Int) : List OpE × Nat := match fixK k op 0 with
 | some (i, _, b) => (op.set i (k, v, b), c)
 | none => (op ++ [(k, v, c)], c + 1)
def delK (op : List OpE) (k : Int) : List OpE := match fixK k op 0 with
 | some (i, _, _) => op.eraseIdx i
 | none => op
def prZ (pr : List Int) (k : Int) : Int := pr.getD k.toNat 0
def ranL (pr : List Int) (op : List OpE) (task : Int) (out : List LogV) : List LogV := out.mapIdx fun i l =>
 { l with
  ran := if op.any (fun e => decide (e.2.1 = (i : Int) ∧ e.1 = task)) = true then IntKind.i64.wrap (l.ran + 1) else l.ran
  blk := if op.any (fun e => decide (e.2.1 = (i : Int) ∧ e.1 ≠ task ∧ prZ pr task < prZ pr e.1)) = true then IntKind.i64.wrap (l.blk + 1) else l.blk }
def openOk (pr : List Int) (out : List LogV) (op : List OpE) (c : Nat) : Bool :=
 op.all (fun e => decide (0 ≤ e.1) && decide (e.1 < pr.length) && decide (0 ≤ e.2.1) && decide (e.2.1 < out.length) && decide (e.2.2 < c)) && decide ((op.map (·.2.2)).Nodup) && decide ((op.map fun e => e.2.1.toNat).Nodup)
def ev3 (e : List CV) : Option (Int × Int × Int) := match e with
 | [.int .i64 t, .int .i64 k, .int .i64 i, _, _, _, _] => some (t, k, i)
 | _ => none
abbrev LogS := List OpE × Nat × List LogV
def logStep (pr : List Int) (s : LogS) (e : List CV) : Option LogS := match ev3 e with
 | none => none
 | some (t, k, i) =>
   if i < 0 ∨ (pr.length : Int) ≤ i then some s
   else if k = 1 then some ((putK s.1 s.2.1 i s.2.2.length).1, (putK s.1 s.2.1 i s.2.2.length).2, s.2.2 ++ [⟨i, t, 0, false, false, 0, 0⟩])
   else if k = 3 then (if s.2.2 ≠ [] ∧ openOk pr s.2.2 s.1 s.2.1 = true then some (s.1, s.2.1, ranL pr s.1 i s.2.2) else none)
   else if k = 6 ∨ k = 7 then (match fixK i s.1 0 with
    | none => some s
    | some (_, v, _) => if 0 ≤ v then (match s.2.2[v.toNat]? with
      | some l => some (delK s.1 i, s.2.1, s.2.2.set v.toNat { l with fin := t, ended := true, aborted := decide (k = 7) })
      | none => none) else none)
   else some s
def logsF (pr : List Int) : List (List CV) → LogS → Option LogS
 | [], s => some s
 | e :: r, s => match logStep pr s e with
   | none => none
   | some s' => logsF pr r s'
theorem any_mk {T : MapE → Option Nat} {op : List OpE} {j : Nat} : (op.map mkE).any (fun x => decide (T x = some j)) = op.any fun e => decide (T (mkE e) = some j) := by
 rw [List.any_map]; rfl
theorem turn_rows {h : Heap} {P : Nat → Prop} {cells : List CV} {out : List LogV} {pr : List Int} {op : List OpE} {task : Int} (r : Rows logC h P cells out) (hop : ∀ e ∈ op, 0 ≤ e.2.1) (hp : ∀ k : Int, prAt (ints .i64 pr) 0 k = prZ pr k) :
  Rows logC h P (turnAll (tgt (ints .i64 pr) 0 0 task) (op.map mkE) cells) (ranL pr op task out) := by
 have h7 : logC.n = 7 := rfl
 refine ⟨by simp [turnAll, ranL, r.1], fun i x hx => ?_⟩
 simp only [ranL, List.getElem?_mapIdx, Option.map_eq_some_iff] at hx
 obtain ⟨l, hl, rfl⟩ := hx
 have hr : (cells.drop (i * logC.n)).take logC.n = logL l := r.2 i l hl
 rw [h7] at hr ⊢
 show _ = logL _
 have hc : ∀ q, q < 7 → cells[i * 7 + q]? = (logL l)[q]? := fun q hq => by
  rw [← hr, List.getElem?_take_of_lt hq, List.getElem?_drop]
 have tg : ∀ (e : OpE), e ∈ op → ∀ j, tgt (ints .i64 pr) 0 0 task (mkE e) = some j ↔ (e.1 = task ∧ j = e.2.1.toNat * 7 + 5) ∨ (e.1 ≠ task ∧ prZ pr task < prZ pr e.1 ∧ j = e.2.1.toNat * 7 + 6) := fun e he j => by
  simp only [tgt, mkE, hp]
  by_cases h1 : e.1 = task
  ·simp [h1]; omega
  ·by_cases h2 : prZ pr task < prZ pr e.1
   ·simp [h1, h2]; omega
   ·simp [h1, h2]
 have a5 : (op.map mkE).any (fun x => decide (tgt (ints .i64 pr) 0 0 task x = some (i * 7 + 5))) = op.any (fun e => decide (e.2.1 = (i : Int) ∧ e.1 = task)) := by
  rw [any_mk, Bool.eq_iff_iff, List.any_eq_true, List.any_eq_true]
  constructor
  ·rintro ⟨e, he, q⟩
   have := hop e he
   rcases (tg e he _).1 (of_decide_eq_true q) with ⟨q1, q2⟩ | ⟨q1, q2, q3⟩
   ·exact ⟨e, he, decide_eq_true ⟨by omega, q1⟩⟩
   ·omega
  ·rintro ⟨e, he, q⟩
   have := hop e he
   obtain ⟨q1, q2⟩ := of_decide_eq_true q
   exact ⟨e, he, decide_eq_true ((tg e he _).2 (.inl ⟨q2, by omega⟩))⟩
 have a6 : (op.map mkE).any (fun x => decide (tgt (ints .i64 pr) 0 0 task x = some (i * 7 + 6))) = op.any (fun e => decide (e.2.1 = (i : Int) ∧ e.1 ≠ task ∧ prZ pr task < prZ pr e.1)) := by
  rw [any_mk, Bool.eq_iff_iff, List.any_eq_true, List.any_eq_true]
  constructor
  ·rintro ⟨e, he, q⟩
   have := hop e he
   rcases (tg e he _).1 (of_decide_eq_true q) with ⟨q1, q2⟩ | ⟨q1, q2, q3⟩
   ·omega
   ·exact ⟨e, he, decide_eq_true ⟨by omega, q1, q2⟩⟩
  ·rintro ⟨e, he, q⟩
   have := hop e he
   obtain ⟨q1, q2, q3⟩ := of_decide_eq_true q
   exact ⟨e, he, decide_eq_true ((tg e he _).2 (.inr ⟨q2, q3, by omega⟩))⟩
 have aN : ∀ q, q < 5 → (op.map mkE).any (fun x => decide (tgt (ints .i64 pr) 0 0 task x = some (i * 7 + q))) = false := fun q hq => by
  rw [any_mk, List.any_eq_false]
  intro e he h
  have := hop e he
  rcases (tg e he _).1 (of_decide_eq_true h) with ⟨q1, q2⟩ | ⟨q1, q2, q3⟩ <;> omega
 have hlen : i * 7 + 7 ≤ cells.length := by
  have := (List.getElem?_eq_some_iff.1 hl).1
  rw [r.1, h7]; omega
 apply List.ext_getElem? fun q => ?_
 by_cases hq : q < 7
 ·rw [List.getElem?_take_of_lt hq, List.getElem?_drop]
  simp only [turnAll, List.getElem?_mapIdx]
  rw [hc q hq]
  have : q = 0 ∨ q = 1 ∨ q = 2 ∨ q = 3 ∨ q = 4 ∨ q = 5 ∨ q = 6 := by omega
  rcases this with rfl | rfl | rfl | rfl | rfl | rfl | rfl
  ·rw [aN 0 (by omega)]; rfl
  ·rw [aN 1 (by omega)]; rfl
  ·rw [aN 2 (by omega)]; rfl
  ·rw [aN 3 (by omega)]; rfl
  ·rw [aN 4 (by omega)]; rfl
  ·rw [a5]
   cases op.any (fun e => decide (e.2.1 = (i : Int) ∧ e.1 = task)) <;> rfl
  ·rw [a6]
   cases op.any (fun e => decide (e.2.1 = (i : Int) ∧ e.1 ≠ task ∧ prZ pr task < prZ pr e.1)) <;> rfl
 ·rw [List.getElem?_eq_none (by simp [turnAll]; omega), List.getElem?_eq_none (by show (logL _).length ≤ q; simp [logL]; omega)]
theorem prAt_ints {pr : List Int} (k : Int) : prAt (ints .i64 pr) 0 k = prZ pr k := by
 unfold prAt prZ
 rw [Nat.zero_add, ints_get, List.getD_eq_getElem?_getD]
 cases pr[k.toNat]? <;> rfl
end Go.Cl
