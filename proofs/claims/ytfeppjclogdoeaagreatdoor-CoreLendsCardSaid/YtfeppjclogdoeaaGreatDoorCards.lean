/-
  DERIVED. GIVEN WITH THE SEED: THE CARDS: each row of YtfeppjclogdoeaaGreatDoorRows.lean that lists a variable, with what it lists TIED to the program's text (the seventh form; the later family's looks); each row that meets fmt, with fmt's text TOLD by the authors' own Lean function (tested against real Go, not proved from fmt's source: count such statements apart). THE CARD IS WHAT COUNTS. Prove the row's statement (the work); the ties are given (YtfeppjclogdoeaaGreatDoorTie.lean); close each card by the builder's one call (the guide's Derived/Test/ToyasCard.lean, 'card_holds'). Laid BY PROGRAM, IN A SANDBOX (cutbox-door.mjs). By AI agents, Wed Nov 11 2026. No macro, syntax, notation, axiom, sorry.
-/
import Derived.Test.YtfeppjclogdoeaaGreatDoorRows
import GoSem.ClaimSeven
namespace Go.Proofs.YtfeppjclogdoeaaGreatDoor
namespace Rows

/-- THE TIED CARD OF 'watchbilllaw22.CoreLends'. -/
def coreLendsCard : Claim7 := { stood := { row := coreLendsRow, standIns := [], harness := (true, "84359d82d2332c37b17c8e5960449b60b77e39933aac91837b0a7f37c3cfcc9d"), looks := false }, kinds := [], alts := [], laidByText := true, laidKinds := [.data, .pinned], laidTests := true, laidLooks := .later }
def CoreLendsCardSaid : Prop := Claim7.holds Tryz.pinned (.plain (OpenSpec.ofChange coreLendsSpec)) coreLendsCard

/-- THE TIED CARD OF 'watchbilllaw22.CoreCloses'. -/
def coreClosesCard : Claim7 := { stood := { row := coreClosesRow, standIns := [], harness := (true, "84359d82d2332c37b17c8e5960449b60b77e39933aac91837b0a7f37c3cfcc9d"), looks := false }, kinds := [], alts := [], laidByText := true, laidKinds := [.data, .pinned], laidTests := true, laidLooks := .later }
def CoreClosesCardSaid : Prop := Claim7.holds Tryz.pinned (.plain (OpenSpec.ofChange coreClosesSpec)) coreClosesCard

/-- THE TIED CARD OF 'watchbilllaw22.CoreLocks'. -/
def coreLocksCard : Claim7 := { stood := { row := coreLocksRow, standIns := [], harness := (true, "84359d82d2332c37b17c8e5960449b60b77e39933aac91837b0a7f37c3cfcc9d"), looks := false }, kinds := [], alts := [], laidByText := true, laidKinds := [.data, .pinned], laidTests := true, laidLooks := .later }
def CoreLocksCardSaid : Prop := Claim7.holds Tryz.pinned (.plain (OpenSpec.ofChange coreLocksSpec)) coreLocksCard

/-- THE SECOND FORM's CARD OF 'watchbilllaw22.CoreLends'. -/
def coreLendsUptoCard : Claim7 := { stood := { row := coreLendsUptoRow, standIns := [], harness := (true, "84359d82d2332c37b17c8e5960449b60b77e39933aac91837b0a7f37c3cfcc9d"), looks := false }, kinds := [], alts := [], laidByText := true, laidKinds := [.data, .pinned], laidTests := true, laidLooks := .later }
def CoreLendsUptoCardSaid : Prop := Claim7.holds Tryz.pinned (.plain (OpenSpec.upto coreLendsSpec)) coreLendsUptoCard

/-- THE SECOND FORM's CARD OF 'watchbilllaw22.CoreCloses'. -/
def coreClosesUptoCard : Claim7 := { stood := { row := coreClosesUptoRow, standIns := [], harness := (true, "84359d82d2332c37b17c8e5960449b60b77e39933aac91837b0a7f37c3cfcc9d"), looks := false }, kinds := [], alts := [], laidByText := true, laidKinds := [.data, .pinned], laidTests := true, laidLooks := .later }
def CoreClosesUptoCardSaid : Prop := Claim7.holds Tryz.pinned (.plain (OpenSpec.upto coreClosesSpec)) coreClosesUptoCard

/-- THE SECOND FORM's CARD OF 'watchbilllaw22.CoreLocks'. -/
def coreLocksUptoCard : Claim7 := { stood := { row := coreLocksUptoRow, standIns := [], harness := (true, "84359d82d2332c37b17c8e5960449b60b77e39933aac91837b0a7f37c3cfcc9d"), looks := false }, kinds := [], alts := [], laidByText := true, laidKinds := [.data, .pinned], laidTests := true, laidLooks := .later }
def CoreLocksUptoCardSaid : Prop := Claim7.holds Tryz.pinned (.plain (OpenSpec.upto coreLocksSpec)) coreLocksUptoCard
end Rows
end Go.Proofs.YtfeppjclogdoeaaGreatDoor
