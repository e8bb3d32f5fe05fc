/-
  'JobRuns' returns true whatever the runs, the budget; its argument reads as it did.
-/
import Derived.Test.YtofpioacialnkaaRBJ
import Derived.Test.YtofpioacialnkaaAJobU
import Derived.Test.YtofpioacialnkaaAJobW
namespace Go.Proofs.Ytofpioacialnkaa
open Go Go.Cl

theorem jobRuns_clean (h : Heap) (args : List CV) (ha : ArgL h [.sl (.int .u8), .int .u8] args) : ∃ n h', evCall S.pg (addKnown [27] noPr) n 47 args h = some (.bool true, h') := by
  obtain ⟨v, w, rfl, hb, hc⟩ := argL2 ha
  obtain ⟨l, r0, hr⟩ := arg_ints hb
  obtain ⟨mst, rfl, hm⟩ := arg_int hc
  obtain ⟨n, r, h', k1, rfl⟩ := jobRuns_law (p := ⟨S.pg, addKnown [27] noPr⟩) (mst := mst) rfl rfl r0 hr hm
  exact ⟨n, h', k1⟩

theorem jobRuns_lifted (os : Os) (started : os.Started) (H : Type) (enc : TypeId × Value → H) :
    ReturnsInHanded {} Try.checked os 11 .any (Rows.jobRunsSpec.pre6 enc Try.prog Try.f11 Rows.jobRunsRow.domain false) (Rows.jobRunsSpec.post enc Try.prog Try.f11 false true false false) :=
  law_lifted (C := Try.checked) (tys := [.sl (.int .u8), .int .u8]) (g := 47) (Pg := S.pg) (pr := (addKnown [27] noPr)) (G := gam) (tb := 4) own started (by kernel_rfl) Try.func11
    (ChangeSpec.witness6 (enc := enc) (C := Try.checked) false ⟨#[], #[.slice none 0 0, .int .u8 0], []⟩ 8 (by kernel_rfl) (by kernel_rfl) (by kernel_rfl) (by kernel_rfl))
    rfl (fun ds hd => by match ds, hd with | [_, _], _ => rfl) (by kernel_rfl) (by kernel_rfl) laidOut (by kernel_rfl) (by kernel_rfl) mixed good linked primsJob (by kernel_rfl) jobRuns_clean

theorem jobRuns_holds : Rows.JobRunsSaid :=
  OpenClaim.holds_of_wide 11 Try.f11 rfl rfl rfl rfl rfl rfl rfl ⟨rfl, rfl, rfl, rfl, rfl⟩ rfl rfl rfl rfl rfl (by kernel_rfl) Try.func11 (by kernel_rfl)
    (of_decide_eq_true (by kernel_rfl)) (by unfold Func.isWrapper; first | (rw [if_pos (by decide +kernel)]; kernel_rfl) | (rw [if_neg (by decide +kernel)]; exact ⟨rfl, rfl⟩))
    (fun os started H enc _ => jobRuns_lifted os started H enc)

end Go.Proofs.Ytofpioacialnkaa
