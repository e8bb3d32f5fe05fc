/-
  'JobAny' returns true whatever the two jobs, the lock; its arguments read as they did.
-/
import Derived.Test.YtofpioacialnkaaRBJ
import Derived.Test.YtofpioacialnkaaAJobL
import Derived.Test.YtofpioacialnkaaAJobW
namespace Go.Proofs.Ytofpioacialnkaa
open Go Go.Cl

theorem jobAny_clean (h : Heap) (args : List CV) (ha : ArgL h [jobTy, jobTy, .int .i64] args) : ∃ n h', evCall S.pg (addKnown [27] noPr) n 26 args h = some (.bool true, h') := by
  obtain ⟨v, w, x, rfl, ha, hb, hc⟩ := argL3 ha
  obtain ⟨ca, A, rfl, ra, _⟩ := arg_st tellsJob rfl ha
  obtain ⟨cb, B, rfl, rb, _⟩ := arg_st tellsJob rfl hb
  obtain ⟨lock, rfl, _⟩ := arg_int hc
  obtain ⟨n, r, h', k1, rfl⟩ := jobAny_law (p := ⟨S.pg, addKnown [27] noPr⟩) (lock := lock) rfl rfl ra rb
  exact ⟨n, h', k1⟩

theorem jobAny_lifted (os : Os) (started : os.Started) (H : Type) (enc : TypeId × Value → H) :
    ReturnsInHanded {} Try.checked os 10 .any (Rows.jobAnySpec.pre6 enc Try.prog Try.f10 Rows.jobAnyRow.domain false) (Rows.jobAnySpec.post enc Try.prog Try.f10 false true false false) :=
  law_lifted (C := Try.checked) (tys := [jobTy, jobTy, .int .i64]) (g := 26) (Pg := S.pg) (pr := (addKnown [27] noPr)) (G := gam) (tb := 4) own started (by kernel_rfl) Try.func10
    (ChangeSpec.witness6 (enc := enc) (C := Try.checked) false ⟨#[], #[.agg #[.bool false, .slice none 0 0, .int .i64 0, .int .i64 0, .int .i64 0, .int .i64 0, .int .i64 0, .int .i64 0, .bool false, .slice none 0 0], .agg #[.bool false, .slice none 0 0, .int .i64 0, .int .i64 0, .int .i64 0, .int .i64 0, .int .i64 0, .int .i64 0, .bool false, .slice none 0 0], .int .i64 0], []⟩ 8 (by kernel_rfl) (by kernel_rfl) (by kernel_rfl) (by kernel_rfl))
    rfl (fun ds hd => by match ds, hd with | [_, _, _], _ => rfl) (by kernel_rfl) (by kernel_rfl) laidOut (by kernel_rfl) (by kernel_rfl) mixed good linked primsJob (by kernel_rfl) jobAny_clean

theorem jobAny_holds : Rows.JobAnySaid :=
  OpenClaim.holds_of_wide 10 Try.f10 rfl rfl rfl rfl rfl rfl rfl ⟨rfl, rfl, rfl, rfl, rfl⟩ rfl rfl rfl rfl rfl (by kernel_rfl) Try.func10 (by kernel_rfl)
    (of_decide_eq_true (by kernel_rfl)) (by unfold Func.isWrapper; first | (rw [if_pos (by decide +kernel)]; kernel_rfl) | (rw [if_neg (by decide +kernel)]; exact ⟨rfl, rfl⟩))
    (fun os started H enc _ => jobAny_lifted os started H enc)

end Go.Proofs.Ytofpioacialnkaa
