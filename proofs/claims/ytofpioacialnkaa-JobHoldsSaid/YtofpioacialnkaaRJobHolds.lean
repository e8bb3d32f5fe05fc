/-
  'JobHolds' returns true whatever the locks; its argument reads as it did.
-/
import Derived.Test.YtofpioacialnkaaRBJ
import Derived.Test.YtofpioacialnkaaAJobH
import Derived.Test.YtofpioacialnkaaAJobW
namespace Go.Proofs.Ytofpioacialnkaa
open Go Go.Cl

theorem jobHolds_clean (h : Heap) (args : List CV) (ha : ArgL h [.sl (.int .u8)] args) : ∃ n h', evCall S.pg (addKnown [27] noPr) n 49 args h = some (.bool true, h') := by
  obtain ⟨v, rfl, hb⟩ := argL1 ha
  obtain ⟨l, r0, hr⟩ := arg_ints hb
  obtain ⟨n, r, h', k1, rfl⟩ := jobHolds_law (p := ⟨S.pg, addKnown [27] noPr⟩) rfl rfl r0 hr
  exact ⟨n, h', k1⟩

theorem jobHolds_lifted (os : Os) (started : os.Started) (H : Type) (enc : TypeId × Value → H) :
    ReturnsInHanded {} Try.checked os 12 .any (Rows.jobHoldsSpec.pre6 enc Try.prog Try.f12 Rows.jobHoldsRow.domain false) (Rows.jobHoldsSpec.post enc Try.prog Try.f12 false true false false) :=
  law_lifted (C := Try.checked) (tys := [.sl (.int .u8)]) (g := 49) (Pg := S.pg) (pr := (addKnown [27] noPr)) (G := gam) (tb := 4) own started (by kernel_rfl) Try.func12
    (ChangeSpec.witness6 (enc := enc) (C := Try.checked) false ⟨#[], #[.slice none 0 0], []⟩ 8 (by kernel_rfl) (by kernel_rfl) (by kernel_rfl) (by kernel_rfl))
    rfl (fun ds hd => by match ds, hd with | [_], _ => rfl) (by kernel_rfl) (by kernel_rfl) laidOut (by kernel_rfl) (by kernel_rfl) mixed good linked primsJob (by kernel_rfl) jobHolds_clean

theorem jobHolds_holds : Rows.JobHoldsSaid :=
  OpenClaim.holds_of_wide 12 Try.f12 rfl rfl rfl rfl rfl rfl rfl ⟨rfl, rfl, rfl, rfl, rfl⟩ rfl rfl rfl rfl rfl (by kernel_rfl) Try.func12 (by kernel_rfl)
    (of_decide_eq_true (by kernel_rfl)) (by unfold Func.isWrapper; first | (rw [if_pos (by decide +kernel)]; kernel_rfl) | (rw [if_neg (by decide +kernel)]; exact ⟨rfl, rfl⟩))
    (fun os started H enc _ => jobHolds_lifted os started H enc)

end Go.Proofs.Ytofpioacialnkaa
