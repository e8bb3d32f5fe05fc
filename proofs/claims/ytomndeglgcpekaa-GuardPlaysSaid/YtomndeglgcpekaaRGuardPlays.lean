/-
  'GuardPlays' returns true whatever the periods, whatever is asked; its arguments read as they did.
-/
import Derived.Test.YtomndeglgcpekaaMA
import Derived.Test.YtomndeglgcpekaaM7
namespace Go.Proofs.Ytomndeglgcpekaa
open Go Go.Cl

theorem guardPlays_clean (h : Heap) (args : List CV) (ha : ArgL h [.sl (.int .i64), .sl actTy] args) : ∃ n h', evCall S.pg (addKnown [4] cloneLib) n 9 args h = some (.bool true, h') := by
  obtain ⟨v, w, rfl, ha1, ha2⟩ := argL2 ha
  obtain ⟨P, s0, _⟩ := arg_sl (Tells.int .i64) ha1
  obtain ⟨l, s1, _⟩ := arg_sl tellsAct ha2
  obtain ⟨n, r, h', k1, rfl⟩ := guardPlays_law (p := ⟨S.pg, addKnown [4] cloneLib⟩) rfl rfl s0 s1
  exact ⟨n, h', k1⟩

theorem guardPlays_lifted (os : Os) (started : os.Started) (H : Type) (enc : TypeId × Value → H) :
    ReturnsInHanded {} Try.checked os 3 .any (Rows.guardPlaysSpec.pre6 enc Try.prog Try.f3 Rows.guardPlaysRow.domain false) (Rows.guardPlaysSpec.post enc Try.prog Try.f3 false true false false) :=
  law_lifted (C := Try.checked) (tys := [.sl (.int .i64), .sl actTy]) (g := 9) (Pg := S.pg) (pr := addKnown [4] cloneLib) (G := gam) (tb := 4) own started (by kernel_rfl) Try.func3
    (ChangeSpec.witness6 (enc := enc) (C := Try.checked) false ⟨#[], #[.slice none 0 0, .slice none 0 0], []⟩ 8 (by kernel_rfl) (by kernel_rfl) (by kernel_rfl) (by kernel_rfl))
    rfl (fun ds hd => by match ds, hd with | [_, _], _ => rfl) (by kernel_rfl) (by kernel_rfl) laidOut (by kernel_rfl) (by kernel_rfl) mixed good linked primsGuard (by kernel_rfl) guardPlays_clean

theorem guardPlays_holds : Rows.GuardPlaysSaid :=
  OpenClaim.holds_of_wide 3 Try.f3 rfl rfl rfl rfl rfl rfl rfl ⟨rfl, rfl, rfl, rfl, rfl⟩ rfl rfl rfl rfl rfl (by kernel_rfl) Try.func3 (by kernel_rfl)
    (of_decide_eq_true (by kernel_rfl)) (by unfold Func.isWrapper; first | (rw [if_pos (by decide +kernel)]; kernel_rfl) | (rw [if_neg (by decide +kernel)]; exact ⟨rfl, rfl⟩))
    (fun os started H enc _ => guardPlays_lifted os started H enc)

end Go.Proofs.Ytomndeglgcpekaa
