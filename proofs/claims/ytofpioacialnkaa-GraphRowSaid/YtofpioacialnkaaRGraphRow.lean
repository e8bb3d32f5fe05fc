/-
  'GraphRow' returns true whatever the priorities, in a row or a ring; its argument reads as it did.
-/
import Derived.Test.YtofpioacialnkaaRBG
import Derived.Test.YtofpioacialnkaaAGraphR
namespace Go.Proofs.Ytofpioacialnkaa
open Go Go.Cl

theorem graphRow_clean (h : Heap) (args : List CV) (ha : ArgL h [.sl (.int .u8), .bool] args) : ∃ n h', evCall S.pg (addKnown [16] noPr) n 24 args h = some (.bool true, h') := by
  match args, ha with
  | [v, w], ha =>
    obtain ⟨ha, ⟨rg, hrg⟩, _⟩ := ha
    obtain ⟨base, r0, hr⟩ := arg_ints ha
    simp at hrg
    subst hrg
    obtain ⟨n, r, h', k1, rfl⟩ := graphRow_law (p := ⟨S.pg, addKnown [16] noPr⟩) rfl rfl r0 hr
    exact ⟨n, h', k1⟩

theorem graphRow_lifted (os : Os) (started : os.Started) (H : Type) (enc : TypeId × Value → H) :
    ReturnsInHanded {} Try.checked os 8 .any (Rows.graphRowSpec.pre6 enc Try.prog Try.f8 Rows.graphRowRow.domain false) (Rows.graphRowSpec.post enc Try.prog Try.f8 false true false false) :=
  law_lifted (C := Try.checked) (tys := [.sl (.int .u8), .bool]) (g := 24) (Pg := S.pg) (pr := (addKnown [16] noPr)) (G := gam) (tb := 4) own started (by kernel_rfl) Try.func8
    (ChangeSpec.witness6 (enc := enc) (C := Try.checked) false ⟨#[], #[.slice none 0 0, .bool false], []⟩ 8 (by kernel_rfl) (by kernel_rfl) (by kernel_rfl) (by kernel_rfl))
    rfl (fun ds hd => by match ds, hd with | [_, _], _ => rfl) (by kernel_rfl) (by kernel_rfl) laidOut (by kernel_rfl) (by kernel_rfl) mixed good linked primsGraph (by kernel_rfl) graphRow_clean

theorem graphRow_holds : Rows.GraphRowSaid :=
  OpenClaim.holds_of_wide 8 Try.f8 rfl rfl rfl rfl rfl rfl rfl ⟨rfl, rfl, rfl, rfl, rfl⟩ rfl rfl rfl rfl rfl (by kernel_rfl) Try.func8 (by kernel_rfl)
    (of_decide_eq_true (by kernel_rfl)) (by unfold Func.isWrapper; first | (rw [if_pos (by decide +kernel)]; kernel_rfl) | (rw [if_neg (by decide +kernel)]; exact ⟨rfl, rfl⟩))
    (fun os started H enc _ => graphRow_lifted os started H enc)

end Go.Proofs.Ytofpioacialnkaa
