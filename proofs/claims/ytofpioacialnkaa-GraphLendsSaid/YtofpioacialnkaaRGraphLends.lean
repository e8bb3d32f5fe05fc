/-
  'GraphLends' returns true whatever the priorities and the edges; its arguments read as they did.
-/
import Derived.Test.YtofpioacialnkaaRBG
import Derived.Test.YtofpioacialnkaaAGraphM
namespace Go.Proofs.Ytofpioacialnkaa
open Go Go.Cl

theorem graphLends_clean (h : Heap) (args : List CV) (ha : ArgL h [.sl (.int .i64), .sl (.cons (.int .i64) (.cons (.int .i64) .nil))] args) : ∃ n h', evCall S.pg (addKnown [16] noPr) n 23 args h = some (.bool true, h') := by
  match args, ha with
  | [v, w], ha =>
    obtain ⟨ha, hb, _⟩ := ha
    obtain ⟨base, r0, _⟩ := arg_ints ha
    obtain ⟨E, r1, _⟩ := arg_pairs hb
    obtain ⟨n, r, h', k1, rfl⟩ := graphLends_law (p := ⟨S.pg, addKnown [16] noPr⟩) rfl rfl r0 r1
    exact ⟨n, h', k1⟩

theorem graphLends_lifted (os : Os) (started : os.Started) (H : Type) (enc : TypeId × Value → H) :
    ReturnsInHanded {} Try.checked os 7 .any (Rows.graphLendsSpec.pre6 enc Try.prog Try.f7 Rows.graphLendsRow.domain false) (Rows.graphLendsSpec.post enc Try.prog Try.f7 false true false false) :=
  law_lifted (C := Try.checked) (tys := [.sl (.int .i64), .sl (.cons (.int .i64) (.cons (.int .i64) .nil))]) (g := 23) (Pg := S.pg) (pr := addKnown [16] noPr) (G := gam) (tb := 4) own started (by kernel_rfl) Try.func7
    (ChangeSpec.witness6 (enc := enc) (C := Try.checked) false ⟨#[], #[.slice none 0 0, .slice none 0 0], []⟩ 8 (by kernel_rfl) (by kernel_rfl) (by kernel_rfl) (by kernel_rfl))
    rfl (fun ds hd => by match ds, hd with | [_, _], _ => rfl) (by kernel_rfl) (by kernel_rfl) laidOut (by kernel_rfl) (by kernel_rfl) mixed good linked primsGraph (by kernel_rfl) graphLends_clean

theorem graphLends_holds : Rows.GraphLendsSaid :=
  OpenClaim.holds_of_wide 7 Try.f7 rfl rfl rfl rfl rfl rfl rfl ⟨rfl, rfl, rfl, rfl, rfl⟩ rfl rfl rfl rfl rfl (by kernel_rfl) Try.func7 (by kernel_rfl)
    (of_decide_eq_true (by kernel_rfl)) (by unfold Func.isWrapper; first | (rw [if_pos (by decide +kernel)]; kernel_rfl) | (rw [if_neg (by decide +kernel)]; exact ⟨rfl, rfl⟩))
    (fun os started H enc _ => graphLends_lifted os started H enc)

end Go.Proofs.Ytofpioacialnkaa
