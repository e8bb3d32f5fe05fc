/-
  Texts laid together: LBack LAbort.
-/
import Derived.Test.YtlndogibbgibgaaGreatDoorLink
import Derived.Test.YtlndogibbgibgaaGreatDoorML
import Derived.RangeFuncBox
import Derived.RangeFuncLeaves
import Derived.Shelf.Abstract
import Derived.WalkKit
import Derived.OwnWalkIn
import Derived.TacticsInMore
import Derived.LoopNIn
import Derived.LoopIn
namespace Go.Proofs.YtlndogibbgibgaaGreatDoor
open Go Go.RowKit Go.Shelf Go.Cl
attribute [local go_sem] Oper.semAt_some
set_option maxRecDepth 100000 in
set_option maxHeartbeats 2000000 in
theorem back_in : BackIn Tryz.prog 132 := by
 intro n hn l Bs Bo len hreach xs J hJ hY W h0
 refine callsIn_of_wp Tryz.func132 rfl trivial ?_ rfl
 simp only [Tryz.f132, List.size_toArray, List.length_cons, List.length_nil, Nat.reduceAdd, Nat.reduceSub, Array.replicate_succ, Array.replicate_zero, List.push_toArray, List.append_toArray, List.nil_append, List.cons_append]
 obtain ⟨ad, cap, hB, _⟩ := hJ 0 W h0 (.inr rfl)
 gi_wp2
 gi_loopw [3] (fun i wr => ∃ k : Nat, k ≤ len ∧ i = .int .i64 ((len : Int) - 1 - k) ∧ J k wr) (fun i _ => (intOf i + 1).toNat)
 case atStart => exact ⟨0, Nat.zero_le _, by simp, h0⟩
 case round =>
  obtain ⟨k, hk, rfl, hJk⟩ := hrel
  by_cases hlt : k < len
  ·obtain ⟨ad2, cap2, hB2, hx2⟩ := hJ k wr hJk (.inl hlt)
   obtain ⟨b, off, rfl, hc⟩ := hx2 hlt
   obtain ⟨fn, tmps, assign, body, hy, hR⟩ := hY k wr hJk hlt
   have hge : (0 : Int) ≤ (len : Int) - 1 - k := by omega
   have hin : (len : Int) - 1 - k = ((len - 1 - k : Nat) : Int) := by omega
   rw [hin]
   have hlt2 : len - 1 - k < len := by omega
   generalize len - 1 - k = j at *
   gi_wp2
   refine hR.mono ?_
   rintro e W3 ⟨rfl, hJ3⟩
   gi_wp2
   go_roundw
   case rel => exact ⟨k + 1, by omega, by simp; omega, hJ3⟩
   case measure => simp [intOf]
  ·obtain rfl : k = len := by omega
   have hge : ¬ (0 : Int) ≤ (k : Int) - 1 - k := by omega
   gi_wp2
   go_end0
   exact ⟨⟨_, rfl⟩, hJk⟩
open Go Go.Cl
theorem abortM : abortB Tryz.prog gam Tryz.f61 S.f332 = true := by kernel_rfl
noncomputable def addAbort (pr : Prims) : Prims := addF 332 (abortP S.pg pr 378 S.f332) pr
theorem abort_ok {pr : Prims} (h : PrimOK Tryz.prog gam pr) : PrimOK Tryz.prog gam (addAbort pr) :=
 abortP_ok mixed good linked h (fid := 61) (bid := 132) (by kernel_rfl) (by kernel_rfl) back_in Tryz.func61 abortM
end Go.Proofs.YtlndogibbgibgaaGreatDoor
