/-
  'GuardApart' returns true whatever the period, however many ticks; its arguments read as they did.
-/
import Derived.Test.YtofpioacialnkaaRows
import Derived.Test.YtofpioacialnkaaLink
import Derived.Test.YtofpioacialnkaaCl17
import Derived.Test.YtofpioacialnkaaAGuardA
namespace Go.Proofs.Ytofpioacialnkaa
open Go Go.Cl

theorem own : ownKnob Try.prog.godebug = none := by kernel_rfl
theorem laidOut : laidOutB Try.prog = true := by kernel_rfl

theorem known4 : yes (evCall S.pg noPr 40 4 [] []) = true := by kernel_rfl

theorem primsGuard : PrimOK Try.prog gam (addKnown [4] noPr) :=
  addKnown_ok mixed good linked noPr_ok fun f hf => by
    simp at hf
    subst hf
    exact ⟨40, known4⟩

theorem guardApart_clean (h : Heap) (args : List CV) (ha : ArgL h [.int .u8, .int .u8] args) : ∃ n h', evCall S.pg (addKnown [4] noPr) n 3 args h = some (.bool true, h') := by
  match args, ha with
  | [v, w], ha =>
    obtain ⟨⟨a, ha1, ha2⟩, ⟨b, hb1, hb2⟩, _⟩ := ha
    simp at ha1 hb1
    subst ha1 hb1
    simp only [Lit.wf, Bool.and_eq_true, decide_eq_true_eq] at ha2 hb2
    obtain ⟨n, r, h', k1, rfl⟩ := guardApart_law (p := ⟨S.pg, addKnown [4] noPr⟩) rfl rfl (h := h) (a := a) (b := b) ha2 hb2
    exact ⟨n, h', k1⟩

theorem guardApart_lifted (os : Os) (started : os.Started) (H : Type) (enc : TypeId × Value → H) :
    ReturnsInHanded {} Try.checked os 3 .any (Rows.guardApartSpec.pre6 enc Try.prog Try.f3 Rows.guardApartRow.domain false) (Rows.guardApartSpec.post enc Try.prog Try.f3 false true false false) :=
  law_lifted (C := Try.checked) (tys := [.int .u8, .int .u8]) (g := 3) (Pg := S.pg) (pr := addKnown [4] noPr) (G := gam) (tb := 4) own started (by kernel_rfl) Try.func3
    (ChangeSpec.witness6 (enc := enc) (C := Try.checked) false ⟨#[], #[.int .u8 0, .int .u8 0], []⟩ 8 (by kernel_rfl) (by kernel_rfl) (by kernel_rfl) (by kernel_rfl))
    rfl (fun ds hd => by match ds, hd with | [_, _], _ => rfl) (by kernel_rfl) (by kernel_rfl) laidOut (by kernel_rfl) (by kernel_rfl) mixed good linked primsGuard (by kernel_rfl) guardApart_clean

theorem guardApart_holds : Rows.GuardApartSaid :=
  OpenClaim.holds_of_wide 3 Try.f3 rfl rfl rfl rfl rfl rfl rfl ⟨rfl, rfl, rfl, rfl, rfl⟩ rfl rfl rfl rfl rfl (by kernel_rfl) Try.func3 (by kernel_rfl)
    (of_decide_eq_true (by kernel_rfl)) (by unfold Func.isWrapper; first | (rw [if_pos (by decide +kernel)]; kernel_rfl) | (rw [if_neg (by decide +kernel)]; exact ⟨rfl, rfl⟩))
    (fun os started H enc _ => guardApart_lifted os started H enc)

end Go.Proofs.Ytofpioacialnkaa
