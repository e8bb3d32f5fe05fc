/-
  Texts laid together: ALogW.
-/
import Derived.Test.YtlndogibbgibgaaGreatDoorMY
namespace Go.Cl
open Go
set_option linter.unusedSimpArgs false
set_option linter.unusedVariables false
set_option maxHeartbeats 1000000
variable {p : PP}
theorem WF_prg {f : Nat} {g : List CV → Heap → Option (CV × Heap)} (hp : p.pr f = some g) {vs : List CV} {h : Heap} {r : CV} {h' : Heap} {K : CV → Heap → Prop} (hg : g vs h = some (r, h')) (k : K r h') : WF p f vs h K := by
 refine ⟨1, r, h', ?_, k⟩
 show evCall p.Pg p.pr 1 f vs h = _
 simp only [evCall, hp, hg]
theorem ranW (hp : p.pr 482 = some ranP) {h : Heap} {ov : CV} {out : List LogV} {op : List OpE} {c mb pb : Nat} {pr : List Int} {task : Int} (ow : OwnL logC h NoneOf ov out) (gm : h[mb]? = some (.map (op.map mkE) c)) (gp : h[pb]? = some (.arr (ints .i64 pr) .tight)) (hob : ∀ b, ov.blk = some b → b ≠ pb)
  (hne : out ≠ []) (hok : openOk pr out op c = true) (ht0 : 0 ≤ task) (ht1 : task < pr.length) :
  WF p 482 [ov, .mp mb, .sl pb 0 pr.length pr.length, .int .i64 task] h fun r h' => OwnL logC h' NoneOf ov (ranL pr op task out) ∧ Keep (fun y => ov.blk = some y) h h' := by
 obtain ⟨cells, mi, rows, _⟩ := ow
 rcases mi with ⟨rfl, rfl⟩ | ⟨ob, n, st, rfl, hl, hst, g⟩
 ·have := rows.1
  cases out with
  | nil => exact absurd rfl hne
  | cons a l => have h7 : logC.n = 7 := rfl; rw [h7] at this; simp at this
 have h7 : logC.n = 7 := rfl
 have hn : n = out.length := by
  have := rows.1
  rw [h7] at this hl
  omega
 simp only [openOk, Bool.and_eq_true, decide_eq_true_eq, List.all_eq_true] at hok
 obtain ⟨⟨k1, k2⟩, k3⟩ := hok
 have hpb : ob ≠ pb := hob ob rfl
 have hro : st ≠ .ro := by rcases hst with rfl | rfl <;> simp
 have hlt := lt_of_get g
 have hpi : ∀ k : Int, 0 ≤ k → k < pr.length → isI (ints .i64 pr)[0 + k.toNat]? = true := fun k h0 h1 => by
  rw [Nat.zero_add, ints_get, List.getElem?_eq_getElem (by omega)]
  rfl
 have hrow : ∀ i q, i < out.length → q < 7 → ∃ l, cells[i * 7 + q]? = (logL l)[q]? := fun i q hi hq => by
  have := rows.2 i out[i] (List.getElem?_eq_getElem hi)
  have this : (cells.drop (i * logC.n)).take logC.n = logL out[i] := this
  rw [h7] at this
  exact ⟨out[i], by rw [← this, List.getElem?_take_of_lt hq, List.getElem?_drop]⟩
 have hokR : ranOk ob pb (ints .i64 pr) 0 pr.length n cells st (tgt (ints .i64 pr) 0 0 task) (op.map mkE) c task = true := by
  simp only [ranOk, Bool.and_eq_true, decide_eq_true_eq, Bool.not_eq_true', List.all_eq_true]
  refine ⟨⟨⟨⟨⟨⟨⟨⟨?_, hro⟩, fun x hx => ?_⟩, fun x hx => ?_⟩, ?_⟩, ?_⟩, ht0⟩, ht1⟩, hpi task ht0 ht1⟩
  ·cases hb : Nat.beq ob pb with
   | false => rfl
   | true => exact absurd (Nat.eq_of_beq_eq_true hb) hpb
  ·obtain ⟨e, he, rfl⟩ := List.mem_map.1 hx
   obtain ⟨⟨⟨⟨q1, q2⟩, q3⟩, q4⟩, q5⟩ := k1 e he
   simp only [entOk, mkE, Bool.and_eq_true, decide_eq_true_eq]
   refine ⟨⟨⟨⟨⟨q1, q2⟩, q3⟩, by omega⟩, hpi _ q1 q2⟩, ?_⟩
   simp only [tgt]
   by_cases h1 : e.1 = task
   ·simp only [h1, if_true]
    obtain ⟨l, hl⟩ := hrow e.2.1.toNat 5 (by omega) (by omega)
    rw [Nat.zero_add, hl]; rfl
   ·rw [if_neg h1]
    by_cases h2 : prAt (ints .i64 pr) 0 task < prAt (ints .i64 pr) 0 e.1
    ·rw [if_pos h2]
     simp only
     obtain ⟨l, hl⟩ := hrow e.2.1.toNat 6 (by omega) (by omega)
     rw [Nat.zero_add, hl]; rfl
    ·rw [if_neg h2]
  ·obtain ⟨e, he, rfl⟩ := List.mem_map.1 hx
   exact (k1 e he).2
  ·rw [List.map_map]; exact k2
  ·rw [List.map_map]; exact k3
 refine WF_prg hp (r := .tup []) (h' := (h ++ [Obj.dead]).set ob (.arr (turnAll (tgt (ints .i64 pr) 0 0 task) (op.map mkE) cells) st)) ?_ ?_
 ·simp only [ranP, g, gm, gp, hokR, if_true]
 ·have g' : ((h ++ [Obj.dead]).set ob (.arr (turnAll (tgt (ints .i64 pr) 0 0 task) (op.map mkE) cells) st))[ob]? = some (.arr (turnAll (tgt (ints .i64 pr) 0 0 task) (op.map mkE) cells) st) := List.getElem?_set_self (by simp; omega)
  have kk : Keep (fun y => y = ob) (h ++ [Obj.dead]) ((h ++ [Obj.dead]).set ob (.arr (turnAll (tgt (ints .i64 pr) 0 0 task) (op.map mkE) cells) st)) := Keep.set _ _ rfl
  refine ⟨⟨_, .inr ⟨ob, n, st, rfl, by simp [turnAll, hl], hst, g'⟩, turn_rows rows (fun e he => (k1 e he).1.1.2) prAt_ints, fun _ _ => id⟩, ?_⟩
  exact ((Keep.app (fun y => y = ob) h [Obj.dead]).trans kk).mono fun y _ e => by rw [e]; rfl
end Go.Cl
