/-
  Texts laid together: RB0 RBS2.
-/
import Derived.Test.YtjlcfkdkongmmaaGreatDoorRows
import Derived.Test.YtjlcfkdkongmmaaGreatDoorCards
import Derived.Test.YtjlcfkdkongmmaaGreatDoorTie
import Derived.Test.YtjlcfkdkongmmaaGreatDoorLink
import Derived.Test.YtjlcfkdkongmmaaGreatDoorM6
import Derived.Test.YtjlcfkdkongmmaaGreatDoorM3
import Derived.Lay
import Derived.LaidMore
import Derived.MakeChecks
import Derived.SevenTiedAt
import Derived.Test.YtjlcfkdkongmmaaGreatDoorMG
namespace Go.Proofs.YtjlcfkdkongmmaaGreatDoor
open Go Go.Cl
theorem own : ownKnob Tryz.prog.godebug = none := by kernel_rfl
theorem laidOut : laidOutB Tryz.prog = true := by kernel_rfl
theorem pins_of {l : List (String × DataW Unit)} (hl : (l.all fun x => x.2.handleName?.isNone) = true)
  (h0 : (l.filter fun x => x.1 == "internal/strconv.uint64pow10") = [("internal/strconv.uint64pow10", Lib.tabData .u64 Lib.pow10Tab)])
  (h2 : (l.filter fun x => x.1 == "strconv.ErrSyntax") = [("strconv.ErrSyntax", Rows.laid_strconv_ErrSyntax)])
  (h3 : (l.filter fun x => x.1 == "strconv.ErrRange") = [("strconv.ErrRange", Rows.laid_strconv_ErrRange)])
  {W : World} (h : laidMetH Tryz.prog l W) (hs : W.ShapedOpen Tryz.prog) : ∃ m, Inv gam m gam.K W := by
 rw [MakeChecks.laidMetH_plain _ _ _ hl] at h
 obtain ⟨n, hn⟩ := Tryz.laysM146.s1_3 W hs
 refine Inv.pins fun k o hk => ?_
 match k, hk with
 | 0, hk =>
   obtain rfl := Option.some.inj ((show gam.K[0]? = some _ from rfl).symm.trans hk)
   refine ⟨_, _, rfl, ?_⟩
   have hv := tab_of (g := 0) h h0 (by kernel_rfl) (by kernel_rfl) Tryz.underlying315 (by kernel_rfl) (by kernel_rfl) (by kernel_rfl)
   obtain ⟨e, fr, hh⟩ := heap_of_var (by kernel_rfl) hv
   exact ⟨_, e, fr, hh, rfl⟩
 | 1, hk =>
   obtain rfl := Option.some.inj ((show gam.K[1]? = some _ from rfl).symm.trans hk)
   refine ⟨_, _, rfl, ?_⟩
   unfold World.cell? at hn
   split at hn
   ·rename_i C e fr hh
    exact ⟨C, e, fr, hh, n, by simpa using hn⟩
   ·cases hn
 | 2, hk =>
   obtain rfl := Option.some.inj ((show gam.K[2]? = some _ from rfl).symm.trans hk)
   refine ⟨_, _, rfl, ?_⟩
   obtain ⟨u, v, hv⟩ := ifc_of (g := 2) h h2 (by kernel_rfl) (by kernel_rfl) Tryz.underlying92
   obtain ⟨e, fr, hh⟩ := heap_of_var (by kernel_rfl) hv
   exact ⟨_, e, fr, hh, u, v, rfl⟩
 | 3, hk =>
   obtain rfl := Option.some.inj ((show gam.K[3]? = some _ from rfl).symm.trans hk)
   refine ⟨_, _, rfl, ?_⟩
   obtain ⟨u, v, hv⟩ := ifc_of (g := 3) h h3 (by kernel_rfl) (by kernel_rfl) Tryz.underlying92
   obtain ⟨e, fr, hh⟩ := heap_of_var (by kernel_rfl) hv
   exact ⟨_, e, fr, hh, u, v, rfl⟩
 | k + 4, hk =>
   have : gam.K[k + 4]? = none := List.getElem?_eq_none (show 4 ≤ k + 4 by omega)
   rw [this] at hk; cases hk
set_option maxRecDepth 1000000 in
theorem known457 : go (loadK gam.K .nil fun t => callF S.pg libF 3000 100 457 [] t fyes) = true := by kernel_rfl
theorem primsS2 : PrimOK Tryz.prog gam (addKnown [457] lib) :=
 addKnown_ok mixed good linked lib_ok fun f hf => by
  simp at hf
  subst hf
  obtain ⟨n, h', h1⟩ := fast_known lib_fs known457
  exact ⟨n, by rw [h1]; rfl⟩
end Go.Proofs.YtjlcfkdkongmmaaGreatDoor
