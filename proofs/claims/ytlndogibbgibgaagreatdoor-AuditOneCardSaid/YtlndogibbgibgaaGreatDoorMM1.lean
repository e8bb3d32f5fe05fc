/-
  Texts laid together: LRan RBS4.
-/
import Derived.Test.YtlndogibbgibgaaGreatDoorLink
import Derived.Test.YtlndogibbgibgaaGreatDoorMX2
import Derived.Test.YtlndogibbgibgaaGreatDoorML
import Derived.Test.YtlndogibbgibgaaGreatDoorRows
import Derived.Test.YtlndogibbgibgaaGreatDoorCards
import Derived.Test.YtlndogibbgibgaaGreatDoorTie
import Derived.Test.YtlndogibbgibgaaGreatDoorM6
import Derived.Test.YtlndogibbgibgaaGreatDoorMG
import Derived.Test.YtlndogibbgibgaaGreatDoorMM
import Derived.Test.YtlndogibbgibgaaGreatDoorMS
import Derived.Lay
import Derived.LaidMore
import Derived.MakeChecks
import Derived.SevenTiedAt
namespace Go.Proofs.YtlndogibbgibgaaGreatDoor
open Go Go.Cl
theorem ran_sim {vs : List CV} {h h' : Heap} {r : CV} (hev : ranP vs h = some (r, h')) : CallSim Tryz.prog gam 22 vs h r h' := by
 unfold ranP at hev
 split at hev
 case h_2 => cases hev
 rename_i ob oo n c bm pb po pn pc task
 split at hev
 case h_2 => cases hev
 rename_i cells st es ck pcs pst g1 g2 g3
 split at hev
 case isFalse => cases hev
 rename_i hok
 simp only [Option.some.injEq, Prod.mk.injEq] at hev
 obtain ⟨rfl, rfl⟩ := hev
 simp only [ranOk, Bool.and_eq_true, decide_eq_true_eq, Bool.not_eq_true', List.all_eq_true] at hok
 obtain ⟨⟨⟨⟨⟨⟨⟨⟨k1, k2⟩, k3⟩, k4⟩, k5⟩, k6⟩, k7⟩, k8⟩, k9⟩ := hok
 have hpb : ob ≠ pb := fun e => by rw [e, Nat.beq_refl] at k1; cases k1
 have hmb : ob ≠ bm := fun e => by rw [e, g2] at g1; cases g1
 have l1 := (List.getElem?_eq_some_iff.1 g1).1
 have l2 := (List.getElem?_eq_some_iff.1 g2).1
 have l3 := (List.getElem?_eq_some_iff.1 g3).1
 refine mapR_sound (call := fun _ _ _ => none) mixed good (fun f vs h r h' q => by cases q) (fun f vs h r h' q => by cases q) Tryz.func22 (by kernel_rfl) rfl (by decide) rfl (s8 := ranC) (by kernel_rfl)
  (bm := bm) (clock := ck) (es := es) rfl k4 k5 (base := [(0, .sl ob oo n c), (2, .sl pb po pn pc), (3, .int .i64 task), (11, .ptr h.length 0)]) ?_ rfl
  (Hs := fun seen => (h ++ [Cl.Obj.dead]).set ob (.arr (turned (tgt pcs po oo task) es seen cells) st)) ?_ ?_ ?_ ?_
 ·intro i v hi
  simp only [Env.get] at hi
  repeat' split at hi
  all_goals
   first
    | cases hi; done
    | (rename_i q; subst q; obtain rfl := Option.some.inj hi; exact .inr ⟨rfl, rfl⟩)
    | (rename_i q; subst q; exact .inl ⟨by omega, hi⟩)
 ·show (h ++ [Cl.Obj.dead]).set ob _ = _
  rw [turned_nil]
  have gA : (h ++ [Cl.Obj.dead])[ob]? = some (.arr cells st) := by rw [List.getElem?_append_left l1]; exact g1
  apply List.ext_getElem? fun i => ?_
  by_cases hi : i = ob
  ·subst hi
   rw [List.getElem?_set_self (by simp; omega), gA]
  ·rw [List.getElem?_set_ne (Ne.symm hi)]
 ·intro seen
  show ((h ++ [Cl.Obj.dead]).set ob _)[bm]? = _
  rw [List.getElem?_set_ne hmb, List.getElem?_append_left l2]
  exact g2
 ·intro seen x hx hn hseen
  obtain ⟨t1, t2⟩ := turned_more (T := tgt pcs po oo task) (cells := cells) hx k5 (fun y hy j q1 q2 => inj_of_map k6 hx hy (by rw [tgt_ix q1, tgt_ix q2])) hn
  have gO : ((h ++ [Cl.Obj.dead]).set ob (.arr (turned (tgt pcs po oo task) es seen cells) st))[ob]? = some (.arr (turned (tgt pcs po oo task) es seen cells) st) := List.getElem?_set_self (by simp; omega)
  have gP : ((h ++ [Cl.Obj.dead]).set ob (.arr (turned (tgt pcs po oo task) es seen cells) st))[pb]? = some (.arr pcs pst) := by
   rw [List.getElem?_set_ne hpb, List.getElem?_append_left l3]; exact g3
  have hx3 := k3 x hx
  have hent : entOk pcs po pn n (turned (tgt pcs po oo task) es seen cells) (tgt pcs po oo task) x = true := by
   unfold entOk at hx3 ⊢
   split at hx3
   case h_2 => cases hx3
   rename_i k i e1 e2
   simp only [Bool.and_eq_true] at hx3 ⊢
   refine ⟨hx3.1, ?_⟩
   have h2 := hx3.2
   cases hT : tgt pcs po oo task x with
   | none => rfl
   | some j =>
     rw [hT] at h2
     simp only at h2 ⊢
     obtain ⟨v, hv⟩ := isI_some h2
     rw [(t2 j _ hT hv).1]
     rfl
  obtain ⟨n1, k, r, e', H, hev, rfl, hH, he'⟩ := ran_round (p := ⟨fun _ => none, fun _ => none⟩) (q := h.length) (c := c) (pc := pc) gO gP k2 hent k7 k8 k9
  have hcall : PP.call ⟨fun _ => none, fun _ => none⟩ n1 = fun _ _ _ => none := by cases n1 <;> rfl
  rw [hcall] at hev
  refine ⟨k, e', ?_, he'⟩
  rw [hev, hH]
  congr 1
  cases hT : tgt pcs po oo task x with
  | none => simp only [t1 hT]
  | some j =>
    unfold entOk at hx3
    split at hx3
    case h_2 => cases hx3
    simp only [Bool.and_eq_true] at hx3
    have h2 := hx3.2
    rw [hT] at h2
    simp only at h2
    obtain ⟨v, hv⟩ := isI_some h2
    obtain ⟨u1, u2⟩ := t2 j _ hT hv
    simp only [u1, u2, List.set_set]
 ·intro seen hall hseen
  show (h ++ [Cl.Obj.dead]).set ob _ = _
  rw [turned_all hall]
theorem ran_ok {pr : Prims} (h : PrimOK Tryz.prog gam pr) : PrimOK Tryz.prog gam (addRan pr) := by
 intro f g hf vs hh r h' hev
 unfold addRan at hf
 cases hb : Nat.beq f 482 with
 | false => rw [hb] at hf; exact h f g hf vs hh r h' hev
 | true =>
   rw [hb] at hf
   obtain rfl := Option.some.inj hf
   have := Nat.eq_of_beq_eq_true hb
   subst this
   refine ⟨?_, fun fid hfid => ?_⟩
   ·unfold ranP at hev
    split at hev
    case h_2 => cases hev
    split at hev
    case h_2 => cases hev
    split at hev
    case isFalse => cases hev
    simp only [Option.some.injEq, Prod.mk.injEq] at hev
    rw [← hev.2]
    simp
   ·obtain rfl := Option.some.inj ((show gam.F 482 = some 22 by kernel_rfl).symm.trans hfid)
    exact ran_sim hev
theorem own : ownKnob Tryz.prog.godebug = none := by kernel_rfl
theorem laidOut : laidOutB Tryz.prog = true := by kernel_rfl
theorem noPins (W : World) : ∃ m, Inv gam m gam.K W := ⟨fun _ => none, Inv.empty gam rfl W⟩
theorem known476 : go (loadK gam.K .nil fun t => callF S.pg (addRanF libF) 3000 200 476 [] t fyes) = true := by kernel_rfl
noncomputable abbrev prS : Prims := addKnown [476] (addRan lib)
theorem primsS : PrimOK Tryz.prog gam prS :=
 addKnown_ok mixed good linked (ran_ok lib_ok) fun f hf => by
  simp at hf
  subst hf
  obtain ⟨n, h', h1⟩ := fast_known (PrimSnd.ran lib_fs) known476
  exact ⟨n, by rw [h1]; rfl⟩
noncomputable abbrev prA : Prims := addAbort prS
theorem primsA : PrimOK Tryz.prog gam prA := abort_ok primsS
theorem lpS : LP ⟨S.pg, prS⟩ := by
 refine ⟨rfl, fun f hf => ?_⟩
 show (match [476].contains f with | true => _ | false => match Nat.beq f 482 with | true => _ | false => lib f) = lib f
 cases hc : [476].contains f with
 | true =>
   have : f = 476 := by simpa using hc
   subst this
   cases hf
 | false =>
   cases hb : Nat.beq f 482 with
   | true =>
     have := Nat.eq_of_beq_eq_true hb
     subst this
     cases hf
   | false => rfl
theorem lpA : LP ⟨S.pg, prA⟩ := by
 refine ⟨rfl, fun f hf => ?_⟩
 show (match Nat.beq f 332 with | true => _ | false => prS f) = lib f
 cases hb : Nat.beq f 332 with
 | true =>
   have := Nat.eq_of_beq_eq_true hb
   subst this
   cases hf
 | false => exact lpS.pr f hf
theorem laA : LA ⟨S.pg, prA⟩ ⟨S.pg, prS⟩ := ⟨lpA, lpS, rfl⟩
end Go.Proofs.YtlndogibbgibgaaGreatDoor
