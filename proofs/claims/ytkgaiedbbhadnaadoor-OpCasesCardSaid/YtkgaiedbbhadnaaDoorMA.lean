/-
  Texts laid together: RB0 RBO.
-/
import Derived.Test.YtkgaiedbbhadnaaDoorRows
import Derived.Test.YtkgaiedbbhadnaaDoorCards
import Derived.Test.YtkgaiedbbhadnaaDoorTie
import Derived.Test.YtkgaiedbbhadnaaDoorLink
import Derived.Test.YtkgaiedbbhadnaaDoorM6
import Derived.Test.YtkgaiedbbhadnaaDoorM3
import Derived.Lay
import Derived.LaidMore
import Derived.MakeChecks
import Derived.SevenTiedAt

namespace Go.Proofs.YtkgaiedbbhadnaaDoor
open Go Go.Cl

theorem own : ownKnob Tryd.prog.godebug = none := by kernel_rfl
theorem laidOut : laidOutB Tryd.prog = true := by kernel_rfl

theorem pins_of {l : List (String × DataW Unit)} (hl : (l.all fun x => x.2.handleName?.isNone) = true)
    (h0 : (l.filter fun x => x.1 == "internal/strconv.uint64pow10") = [("internal/strconv.uint64pow10", Lib.tabData .u64 Lib.pow10Tab)])
    (h2 : (l.filter fun x => x.1 == "strconv.ErrSyntax") = [("strconv.ErrSyntax", Rows.laid_strconv_ErrSyntax)])
    (h3 : (l.filter fun x => x.1 == "strconv.ErrRange") = [("strconv.ErrRange", Rows.laid_strconv_ErrRange)])
    {W : World} (h : laidMetH Tryd.prog l W) (hs : W.ShapedOpen Tryd.prog) : ∃ m, Inv gam m gam.K W := by
  rw [MakeChecks.laidMetH_plain _ _ _ hl] at h
  obtain ⟨n, hn⟩ := Tryd.laysM146.s1_3 W hs
  refine Inv.pins fun k o hk => ?_
  match k, hk with
  | 0, hk =>
    obtain rfl := Option.some.inj ((show gam.K[0]? = some _ from rfl).symm.trans hk)
    refine ⟨_, _, rfl, ?_⟩
    have hv := tab_of (g := 0) h h0 (by kernel_rfl) (by kernel_rfl) Tryd.underlying104 (by kernel_rfl) (by kernel_rfl) (by kernel_rfl)
    obtain ⟨e, fr, hh⟩ := heap_of_var (by kernel_rfl) hv
    exact ⟨_, e, fr, hh, rfl⟩
  | 1, hk =>
    obtain rfl := Option.some.inj ((show gam.K[1]? = some _ from rfl).symm.trans hk)
    refine ⟨_, _, rfl, ?_⟩
    unfold World.cell? at hn
    split at hn
    · rename_i C e fr hh
      exact ⟨C, e, fr, hh, n, by simpa using hn⟩
    · cases hn
  | 2, hk =>
    obtain rfl := Option.some.inj ((show gam.K[2]? = some _ from rfl).symm.trans hk)
    refine ⟨_, _, rfl, ?_⟩
    obtain ⟨u, v, hv⟩ := ifc_of (g := 2) h h2 (by kernel_rfl) (by kernel_rfl) Tryd.underlying67
    obtain ⟨e, fr, hh⟩ := heap_of_var (by kernel_rfl) hv
    exact ⟨_, e, fr, hh, u, v, rfl⟩
  | 3, hk =>
    obtain rfl := Option.some.inj ((show gam.K[3]? = some _ from rfl).symm.trans hk)
    refine ⟨_, _, rfl, ?_⟩
    obtain ⟨u, v, hv⟩ := ifc_of (g := 3) h h3 (by kernel_rfl) (by kernel_rfl) Tryd.underlying67
    obtain ⟨e, fr, hh⟩ := heap_of_var (by kernel_rfl) hv
    exact ⟨_, e, fr, hh, u, v, rfl⟩
  | k + 4, hk =>
    have : gam.K[k + 4]? = none := List.getElem?_eq_none (show 4 ≤ k + 4 by omega)
    rw [this] at hk; cases hk

end Go.Proofs.YtkgaiedbbhadnaaDoor

namespace Go.Proofs.YtkgaiedbbhadnaaDoor
open Go Go.Cl

theorem known218 : yes (evCall S.pg lib 60 218 [] gam.K) = true := by kernel_rfl

theorem primsOp : PrimOK Tryd.prog gam (addKnown [218] lib) :=
  addKnown_ok mixed good linked lib_ok fun f hf => by
    simp at hf
    subst hf
    exact ⟨60, known218⟩

end Go.Proofs.YtkgaiedbbhadnaaDoor
