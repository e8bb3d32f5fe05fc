/-
  DERIVED. GIVEN WITH THE SEED: THE CARDS: each row of YtlndogibbgibgaaGreatDoorRows.lean that lists a variable, with what it lists TIED to the program's text (the seventh form; the later family's looks); each row that meets fmt, with fmt's text TOLD by the authors' own Lean function (tested against real Go, not proved from fmt's source: count such statements apart). THE CARD IS WHAT COUNTS. Prove the row's statement (the work); the ties are given (YtlndogibbgibgaaGreatDoorTie.lean); close each card by the builder's one call (the guide's Derived/Test/ToyasCard.lean, 'card_holds'). Laid BY PROGRAM, IN A SANDBOX (cutbox-door.mjs). By AI agents, Wed Nov 11 2026. No macro, syntax, notation, axiom, sorry.
-/
import Derived.Test.YtlndogibbgibgaaGreatDoorRows
import GoSem.ClaimSeven
namespace Go.Proofs.YtlndogibbgibgaaGreatDoor
namespace Rows

/-- THE TIED CARD OF 'watchbilllaw25.AuditOne'. -/
def auditOneCard : Claim7 := { stood := { row := auditOneRow, standIns := [], harness := (true, "d65eb4071005d679f38663069ea6d36d127d6aa1aabc238577fc362c9ecbcdca"), looks := false }, kinds := [], alts := [], laidByText := true, laidKinds := [.data, .pinned], laidTests := true, laidLooks := .later }
def AuditOneCardSaid : Prop := Claim7.holds Tryz.pinned (.plain (OpenSpec.ofChange auditOneSpec)) auditOneCard

/-- THE TIED CARD OF 'watchbilllaw25.AuditHeld'. -/
def auditHeldCard : Claim7 := { stood := { row := auditHeldRow, standIns := [], harness := (true, "d65eb4071005d679f38663069ea6d36d127d6aa1aabc238577fc362c9ecbcdca"), looks := false }, kinds := [], alts := [], laidByText := true, laidKinds := [.data, .pinned], laidTests := true, laidLooks := .later }
def AuditHeldCardSaid : Prop := Claim7.holds Tryz.pinned (.plain (OpenSpec.ofChange auditHeldSpec)) auditHeldCard

/-- THE TIED CARD OF 'watchbilllaw23.EngineAborts'. -/
def engineAbortsCard : Claim7 := { stood := { row := engineAbortsRow, standIns := [], harness := (true, "d65eb4071005d679f38663069ea6d36d127d6aa1aabc238577fc362c9ecbcdca"), looks := false }, kinds := [], alts := [], laidByText := true, laidKinds := [.data, .data, .data, .data, .pinned], laidTests := true, laidLooks := .later }
def EngineAbortsCardSaid : Prop := Claim7.holds Tryz.pinned (.plain (OpenSpec.ofChange engineAbortsSpec)) engineAbortsCard

/-- THE SECOND FORM's CARD OF 'watchbilllaw25.AuditOne'. -/
def auditOneUptoCard : Claim7 := { stood := { row := auditOneUptoRow, standIns := [], harness := (true, "d65eb4071005d679f38663069ea6d36d127d6aa1aabc238577fc362c9ecbcdca"), looks := false }, kinds := [], alts := [], laidByText := true, laidKinds := [.data, .pinned], laidTests := true, laidLooks := .later }
def AuditOneUptoCardSaid : Prop := Claim7.holds Tryz.pinned (.plain (OpenSpec.upto auditOneSpec)) auditOneUptoCard

/-- THE SECOND FORM's CARD OF 'watchbilllaw25.AuditHeld'. -/
def auditHeldUptoCard : Claim7 := { stood := { row := auditHeldUptoRow, standIns := [], harness := (true, "d65eb4071005d679f38663069ea6d36d127d6aa1aabc238577fc362c9ecbcdca"), looks := false }, kinds := [], alts := [], laidByText := true, laidKinds := [.data, .pinned], laidTests := true, laidLooks := .later }
def AuditHeldUptoCardSaid : Prop := Claim7.holds Tryz.pinned (.plain (OpenSpec.upto auditHeldSpec)) auditHeldUptoCard

/-- THE SECOND FORM's CARD OF 'watchbilllaw23.EngineAborts'. -/
def engineAbortsUptoCard : Claim7 := { stood := { row := engineAbortsUptoRow, standIns := [], harness := (true, "d65eb4071005d679f38663069ea6d36d127d6aa1aabc238577fc362c9ecbcdca"), looks := false }, kinds := [], alts := [], laidByText := true, laidKinds := [.data, .data, .data, .data, .pinned], laidTests := true, laidLooks := .later }
def EngineAbortsUptoCardSaid : Prop := Claim7.holds Tryz.pinned (.plain (OpenSpec.upto engineAbortsSpec)) engineAbortsUptoCard
end Rows
end Go.Proofs.YtlndogibbgibgaaGreatDoor
