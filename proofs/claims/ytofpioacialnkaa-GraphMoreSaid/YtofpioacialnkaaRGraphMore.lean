/-
  'GraphMore' returns true whatever the priorities, the edges, the one more; its arguments read as they did.
-/
import Derived.Test.YtofpioacialnkaaRBG
import Derived.Test.YtofpioacialnkaaAGraphN
namespace Go.Proofs.Ytofpioacialnkaa
open Go Go.Cl

theorem graphMore_clean (h : Heap) (args : List CV) (ha : ArgL h [.sl (.int .u8), .sl (.cons (.int .i64) (.cons (.int .i64) .nil)), .int .u8, .int .u8, .int .u8] args) : ∃ n h', evCall S.pg (addKnown [16] noPr) n 25 args h = some (.bool true, h') := by
  match args, ha with
  | [v, w, x, y, z], ha =>
    obtain ⟨ha, hb, ⟨f, hf1, hf2⟩, ⟨t, ht1, ht2⟩, ⟨q, hq1, hq2⟩, _⟩ := ha
    obtain ⟨base, r0, hr⟩ := arg_ints ha
    obtain ⟨E, r1, _⟩ := arg_pairs hb
    simp at hf1 ht1 hq1
    subst hf1 ht1 hq1
    simp only [Lit.wf, Bool.and_eq_true, decide_eq_true_eq] at hf2 ht2 hq2
    obtain ⟨n, r, h', k1, rfl⟩ := graphMore_law (p := ⟨S.pg, addKnown [16] noPr⟩) rfl rfl r0 r1 hr hf2 ht2 hq2
    exact ⟨n, h', k1⟩

theorem graphMore_lifted (os : Os) (started : os.Started) (H : Type) (enc : TypeId × Value → H) :
    ReturnsInHanded {} Try.checked os 9 .any (Rows.graphMoreSpec.pre6 enc Try.prog Try.f9 Rows.graphMoreRow.domain false) (Rows.graphMoreSpec.post enc Try.prog Try.f9 false true false false) :=
  law_lifted (C := Try.checked) (tys := [.sl (.int .u8), .sl (.cons (.int .i64) (.cons (.int .i64) .nil)), .int .u8, .int .u8, .int .u8]) (g := 25) (Pg := S.pg) (pr := addKnown [16] noPr) (G := gam) (tb := 4) own started (by kernel_rfl) Try.func9
    (ChangeSpec.witness6 (enc := enc) (C := Try.checked) false ⟨#[], #[.slice none 0 0, .slice none 0 0, .int .u8 0, .int .u8 0, .int .u8 0], []⟩ 8 (by kernel_rfl) (by kernel_rfl) (by kernel_rfl) (by kernel_rfl))
    rfl (fun ds hd => by match ds, hd with | [_, _, _, _, _], _ => rfl) (by kernel_rfl) (by kernel_rfl) laidOut (by kernel_rfl) (by kernel_rfl) mixed good linked primsGraph (by kernel_rfl) graphMore_clean

theorem graphMore_holds : Rows.GraphMoreSaid :=
  OpenClaim.holds_of_wide 9 Try.f9 rfl rfl rfl rfl rfl rfl rfl ⟨rfl, rfl, rfl, rfl, rfl⟩ rfl rfl rfl rfl rfl (by kernel_rfl) Try.func9 (by kernel_rfl)
    (of_decide_eq_true (by kernel_rfl)) (by unfold Func.isWrapper; first | (rw [if_pos (by decide +kernel)]; kernel_rfl) | (rw [if_neg (by decide +kernel)]; exact ⟨rfl, rfl⟩))
    (fun os started H enc _ => graphMore_lifted os started H enc)

end Go.Proofs.Ytofpioacialnkaa
