/-
  'GuardOthers' returns true whatever the periods, whoever asks when; its arguments read as they did.
-/
import Derived.Test.YtofpioacialnkaaRB
import Derived.Test.YtofpioacialnkaaAGuardB
namespace Go.Proofs.Ytofpioacialnkaa
open Go Go.Cl

theorem guardOthers_clean (h : Heap) (args : List CV) (ha : ArgL h [.sl (.int .u8), .sl (.int .u8)] args) : ∃ n h', evCall S.pg (addKnown [4] noPr) n 7 args h = some (.bool true, h') := by
  match args, ha with
  | [v, w], ha =>
    obtain ⟨ha, hb, _⟩ := ha
    obtain ⟨ps, r0, hp⟩ := arg_ints ha
    obtain ⟨l, r1, hl⟩ := arg_ints hb
    obtain ⟨n, r, h', k1, rfl⟩ := guardOthers_law (p := ⟨S.pg, addKnown [4] noPr⟩) rfl rfl r0 r1 hp hl
    exact ⟨n, h', k1⟩

theorem guardOthers_lifted (os : Os) (started : os.Started) (H : Type) (enc : TypeId × Value → H) :
    ReturnsInHanded {} Try.checked os 4 .any (Rows.guardOthersSpec.pre6 enc Try.prog Try.f4 Rows.guardOthersRow.domain false) (Rows.guardOthersSpec.post enc Try.prog Try.f4 false true false false) :=
  law_lifted (C := Try.checked) (tys := [.sl (.int .u8), .sl (.int .u8)]) (g := 7) (Pg := S.pg) (pr := addKnown [4] noPr) (G := gam) (tb := 4) own started (by kernel_rfl) Try.func4
    (ChangeSpec.witness6 (enc := enc) (C := Try.checked) false ⟨#[], #[.slice none 0 0, .slice none 0 0], []⟩ 8 (by kernel_rfl) (by kernel_rfl) (by kernel_rfl) (by kernel_rfl))
    rfl (fun ds hd => by match ds, hd with | [_, _], _ => rfl) (by kernel_rfl) (by kernel_rfl) laidOut (by kernel_rfl) (by kernel_rfl) mixed good linked primsGuard (by kernel_rfl) guardOthers_clean

theorem guardOthers_holds : Rows.GuardOthersSaid :=
  OpenClaim.holds_of_wide 4 Try.f4 rfl rfl rfl rfl rfl rfl rfl ⟨rfl, rfl, rfl, rfl, rfl⟩ rfl rfl rfl rfl rfl (by kernel_rfl) Try.func4 (by kernel_rfl)
    (of_decide_eq_true (by kernel_rfl)) (by unfold Func.isWrapper; first | (rw [if_pos (by decide +kernel)]; kernel_rfl) | (rw [if_neg (by decide +kernel)]; exact ⟨rfl, rfl⟩))
    (fun os started H enc _ => guardOthers_lifted os started H enc)

end Go.Proofs.Ytofpioacialnkaa
