/-
  Texts laid together: RB0 RBS.
-/
import Derived.Test.YtnfajbkbmlmdoaaGreatDoorRows
import Derived.Test.YtnfajbkbmlmdoaaGreatDoorCards
import Derived.Test.YtnfajbkbmlmdoaaGreatDoorTie
import Derived.Test.YtnfajbkbmlmdoaaGreatDoorLink
import Derived.Test.YtnfajbkbmlmdoaaGreatDoorM7
import Derived.Test.YtnfajbkbmlmdoaaGreatDoorM3
import Derived.Lay
import Derived.LaidMore
import Derived.MakeChecks
import Derived.SevenTiedAt
import Derived.Test.YtnfajbkbmlmdoaaGreatDoorMA
import Derived.Test.YtnfajbkbmlmdoaaGreatDoorM6
import Derived.Test.YtnfajbkbmlmdoaaGreatDoorM5

namespace Go.Proofs.YtnfajbkbmlmdoaaGreatDoor
open Go Go.Cl

theorem own : ownKnob Tryz.prog.godebug = none := by kernel_rfl
theorem laidOut : laidOutB Tryz.prog = true := by kernel_rfl

theorem pins_of {l : List (String × DataW Unit)} (hl : (l.all fun x => x.2.handleName?.isNone) = true)
    (h0 : (l.filter fun x => x.1 == "internal/strconv.uint64pow10") = [("internal/strconv.uint64pow10", Lib.tabData .u64 Lib.pow10Tab)])
    (h2 : (l.filter fun x => x.1 == "strconv.ErrSyntax") = [("strconv.ErrSyntax", Rows.laid_strconv_ErrSyntax)])
    (h3 : (l.filter fun x => x.1 == "strconv.ErrRange") = [("strconv.ErrRange", Rows.laid_strconv_ErrRange)])
    {W : World} (h : laidMetH Tryz.prog l W) (hs : W.ShapedOpen Tryz.prog) : ∃ m, Inv gam m gam.K W := by
  rw [MakeChecks.laidMetH_plain _ _ _ hl] at h
  obtain ⟨n, hn⟩ := Tryz.laysM146.s1_3 W hs
  refine Inv.pins fun k o hk => ?_
  match k, hk with
  | 0, hk =>
    obtain rfl := Option.some.inj ((show gam.K[0]? = some _ from rfl).symm.trans hk)
    refine ⟨_, _, rfl, ?_⟩
    have hv := tab_of (g := 0) h h0 (by kernel_rfl) (by kernel_rfl) Tryz.underlying251 (by kernel_rfl) (by kernel_rfl) (by kernel_rfl)
    obtain ⟨e, fr, hh⟩ := heap_of_var (by kernel_rfl) hv
    exact ⟨_, e, fr, hh, rfl⟩
  | 1, hk =>
    obtain rfl := Option.some.inj ((show gam.K[1]? = some _ from rfl).symm.trans hk)
    refine ⟨_, _, rfl, ?_⟩
    unfold World.cell? at hn
    split at hn
    · rename_i C e fr hh
      exact ⟨C, e, fr, hh, n, by simpa using hn⟩
    · cases hn
  | 2, hk =>
    obtain rfl := Option.some.inj ((show gam.K[2]? = some _ from rfl).symm.trans hk)
    refine ⟨_, _, rfl, ?_⟩
    obtain ⟨u, v, hv⟩ := ifc_of (g := 2) h h2 (by kernel_rfl) (by kernel_rfl) Tryz.underlying65
    obtain ⟨e, fr, hh⟩ := heap_of_var (by kernel_rfl) hv
    exact ⟨_, e, fr, hh, u, v, rfl⟩
  | 3, hk =>
    obtain rfl := Option.some.inj ((show gam.K[3]? = some _ from rfl).symm.trans hk)
    refine ⟨_, _, rfl, ?_⟩
    obtain ⟨u, v, hv⟩ := ifc_of (g := 3) h h3 (by kernel_rfl) (by kernel_rfl) Tryz.underlying65
    obtain ⟨e, fr, hh⟩ := heap_of_var (by kernel_rfl) hv
    exact ⟨_, e, fr, hh, u, v, rfl⟩
  | k + 4, hk =>
    have : gam.K[k + 4]? = none := List.getElem?_eq_none (show 4 ≤ k + 4 by omega)
    rw [this] at hk; cases hk

end Go.Proofs.YtnfajbkbmlmdoaaGreatDoor

namespace Go.Proofs.YtnfajbkbmlmdoaaGreatDoor
open Go Go.Cl

set_option maxRecDepth 1000000 in
theorem known457 : go (loadK gam.K .nil fun t => callF S.pg (addRingF libF) 3000 100 457 [] t fyes) = true := by kernel_rfl

def prS : Prims := addKnown [457] (addRing lib)
theorem primsS : PrimOK Tryz.prog gam prS :=
  addKnown_ok mixed good linked (ring_ok lib_ok) fun f hf => by
    simp at hf
    subst hf
    obtain ⟨n, h', h1⟩ := fast_known (PrimSnd.ring lib_fs) known457
    exact ⟨n, by rw [h1]; rfl⟩

theorem addKnown_ok2 {P : Program} {G : Gam} {Pg : Prog} {pr1 pr2 : Prims} (hmix : P.follows .mixedOrders = true) (hG : Cl.Good P G) (hLk : Linked P G Pg) (h1 : PrimOK P G pr1) (h2 : PrimOK P G pr2) {l : List Nat}
    (hk : ∀ f ∈ l, ∃ n, yes (evCall Pg pr1 n f [] G.K) = true) : PrimOK P G (addKnown l pr2) := by
  intro f g hf vs h r h' hev
  cases hc : l.contains f with
  | false =>
    unfold addKnown at hf
    rw [hc] at hf
    exact h2 f g hf vs h r h' hev
  | true =>
    refine addKnown_ok hmix hG hLk h1 hk f g ?_ vs h r h' hev
    unfold addKnown at hf ⊢
    rw [hc] at hf ⊢
    exact hf

/-- the texts' laws call no ring -/
theorem primsS2 : PrimOK Tryz.prog gam (addKnown [457] lib) :=
  addKnown_ok2 mixed good linked (ring_ok lib_ok) lib_ok fun f hf => by
    simp at hf
    subst hf
    obtain ⟨n, h', h1⟩ := fast_known (PrimSnd.ring lib_fs) known457
    exact ⟨n, by rw [h1]; rfl⟩

end Go.Proofs.YtnfajbkbmlmdoaaGreatDoor
