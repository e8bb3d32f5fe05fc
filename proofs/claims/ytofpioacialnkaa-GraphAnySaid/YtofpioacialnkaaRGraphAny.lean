/-
  'GraphAny' returns true whatever the priorities, the edges, how many; its arguments read as they did.
-/
import Derived.Test.YtofpioacialnkaaRBG
import Derived.Test.YtofpioacialnkaaAGraphS
import Derived.Test.YtofpioacialnkaaClArgs
namespace Go.Proofs.Ytofpioacialnkaa
open Go Go.Cl

theorem graphAny_clean (h : Heap) (args : List CV) (ha : ArgL h [.sl (.int .i64), .sl (.int .i64), .sl (.cons (.int .i64) (.cons (.int .i64) .nil)), .int .i64] args) : ∃ n h', evCall S.pg (addKnown [16] noPr) n 15 args h = some (.bool true, h') := by
  obtain ⟨v, w, x, y, rfl, hb, hc, hd, he⟩ := argL4 ha
  obtain ⟨base, r0, _⟩ := arg_ints hb
  obtain ⟨least, r1, _⟩ := arg_ints hc
  obtain ⟨E, r2, _⟩ := arg_pairs hd
  obtain ⟨n, rfl, _⟩ := arg_int he
  obtain ⟨m, r, h', k1, rfl⟩ := graphAny_law (p := ⟨S.pg, addKnown [16] noPr⟩) (n := n) rfl rfl r0 r1 r2
  exact ⟨m, h', k1⟩

theorem graphAny_lifted (os : Os) (started : os.Started) (H : Type) (enc : TypeId × Value → H) :
    ReturnsInHanded {} Try.checked os 6 .any (Rows.graphAnySpec.pre6 enc Try.prog Try.f6 Rows.graphAnyRow.domain false) (Rows.graphAnySpec.post enc Try.prog Try.f6 false true false false) :=
  law_lifted (C := Try.checked) (tys := [.sl (.int .i64), .sl (.int .i64), .sl (.cons (.int .i64) (.cons (.int .i64) .nil)), .int .i64]) (g := 15) (Pg := S.pg) (pr := (addKnown [16] noPr)) (G := gam) (tb := 4) own started (by kernel_rfl) Try.func6
    (ChangeSpec.witness6 (enc := enc) (C := Try.checked) false ⟨#[], #[.slice none 0 0, .slice none 0 0, .slice none 0 0, .int .i64 0], []⟩ 8 (by kernel_rfl) (by kernel_rfl) (by kernel_rfl) (by kernel_rfl))
    rfl (fun ds hd => by match ds, hd with | [_, _, _, _], _ => rfl) (by kernel_rfl) (by kernel_rfl) laidOut (by kernel_rfl) (by kernel_rfl) mixed good linked primsGraph (by kernel_rfl) graphAny_clean

theorem graphAny_holds : Rows.GraphAnySaid :=
  OpenClaim.holds_of_wide 6 Try.f6 rfl rfl rfl rfl rfl rfl rfl ⟨rfl, rfl, rfl, rfl, rfl⟩ rfl rfl rfl rfl rfl (by kernel_rfl) Try.func6 (by kernel_rfl)
    (of_decide_eq_true (by kernel_rfl)) (by unfold Func.isWrapper; first | (rw [if_pos (by decide +kernel)]; kernel_rfl) | (rw [if_neg (by decide +kernel)]; exact ⟨rfl, rfl⟩))
    (fun os started H enc _ => graphAny_lifted os started H enc)

end Go.Proofs.Ytofpioacialnkaa
