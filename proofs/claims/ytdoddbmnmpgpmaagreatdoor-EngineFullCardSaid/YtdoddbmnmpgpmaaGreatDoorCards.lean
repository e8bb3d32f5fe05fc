/-
  DERIVED. GIVEN WITH THE SEED: THE CARDS: each row of YtdoddbmnmpgpmaaGreatDoorRows.lean that lists a variable, with what it lists TIED to the program's text (the seventh form; the later family's looks); each row that meets fmt, with fmt's text TOLD by the authors' own Lean function (tested against real Go, not proved from fmt's source: count such statements apart). THE CARD IS WHAT COUNTS. Prove the row's statement (the work); the ties are given (YtdoddbmnmpgpmaaGreatDoorTie.lean); close each card by the builder's one call (the guide's Derived/Test/ToyasCard.lean, 'card_holds'). Laid BY PROGRAM, IN A SANDBOX (cutbox-door.mjs). By AI agents, Wed Nov 11 2026. No macro, syntax, notation, axiom, sorry.
-/
import Derived.Test.YtdoddbmnmpgpmaaGreatDoorRows
import GoSem.ClaimSeven
namespace Go.Proofs.YtdoddbmnmpgpmaaGreatDoor
namespace Rows

/-- THE TIED CARD OF 'watchbilllaw26.FlowAny'. -/
def flowAnyCard : Claim7 := { stood := { row := flowAnyRow, standIns := [], harness := (true, "3049bfe6760972a643ba83d8f4249be03934394b924b259dadc8321ae7cb0487"), looks := false }, kinds := [], alts := [], laidByText := true, laidKinds := [.data, .pinned], laidTests := true, laidLooks := .later }
def FlowAnyCardSaid : Prop := Claim7.holds Tryz.pinned (.plain (OpenSpec.ofChange flowAnySpec)) flowAnyCard

/-- THE TIED CARD OF 'watchbilllaw26.FlowTurned'. -/
def flowTurnedCard : Claim7 := { stood := { row := flowTurnedRow, standIns := [], harness := (true, "3049bfe6760972a643ba83d8f4249be03934394b924b259dadc8321ae7cb0487"), looks := false }, kinds := [], alts := [], laidByText := true, laidKinds := [.data, .pinned], laidTests := true, laidLooks := .later }
def FlowTurnedCardSaid : Prop := Claim7.holds Tryz.pinned (.plain (OpenSpec.ofChange flowTurnedSpec)) flowTurnedCard

/-- THE TIED CARD OF 'watchbilllaw26.FlowSelects'. -/
def flowSelectsCard : Claim7 := { stood := { row := flowSelectsRow, standIns := [], harness := (true, "3049bfe6760972a643ba83d8f4249be03934394b924b259dadc8321ae7cb0487"), looks := false }, kinds := [], alts := [], laidByText := true, laidKinds := [.data, .pinned], laidTests := true, laidLooks := .later }
def FlowSelectsCardSaid : Prop := Claim7.holds Tryz.pinned (.plain (OpenSpec.ofChange flowSelectsSpec)) flowSelectsCard

/-- THE TIED CARD OF 'watchbilllaw23.EngineFull'. -/
def engineFullCard : Claim7 := { stood := { row := engineFullRow, standIns := [], harness := (true, "3049bfe6760972a643ba83d8f4249be03934394b924b259dadc8321ae7cb0487"), looks := false }, kinds := [], alts := [], laidByText := true, laidKinds := [.data, .data, .data, .data, .pinned], laidTests := true, laidLooks := .later }
def EngineFullCardSaid : Prop := Claim7.holds Tryz.pinned (.plain (OpenSpec.ofChange engineFullSpec)) engineFullCard

/-- THE SECOND FORM's CARD OF 'watchbilllaw26.FlowAny'. -/
def flowAnyUptoCard : Claim7 := { stood := { row := flowAnyUptoRow, standIns := [], harness := (true, "3049bfe6760972a643ba83d8f4249be03934394b924b259dadc8321ae7cb0487"), looks := false }, kinds := [], alts := [], laidByText := true, laidKinds := [.data, .pinned], laidTests := true, laidLooks := .later }
def FlowAnyUptoCardSaid : Prop := Claim7.holds Tryz.pinned (.plain (OpenSpec.upto flowAnySpec)) flowAnyUptoCard

/-- THE SECOND FORM's CARD OF 'watchbilllaw26.FlowTurned'. -/
def flowTurnedUptoCard : Claim7 := { stood := { row := flowTurnedUptoRow, standIns := [], harness := (true, "3049bfe6760972a643ba83d8f4249be03934394b924b259dadc8321ae7cb0487"), looks := false }, kinds := [], alts := [], laidByText := true, laidKinds := [.data, .pinned], laidTests := true, laidLooks := .later }
def FlowTurnedUptoCardSaid : Prop := Claim7.holds Tryz.pinned (.plain (OpenSpec.upto flowTurnedSpec)) flowTurnedUptoCard

/-- THE SECOND FORM's CARD OF 'watchbilllaw26.FlowSelects'. -/
def flowSelectsUptoCard : Claim7 := { stood := { row := flowSelectsUptoRow, standIns := [], harness := (true, "3049bfe6760972a643ba83d8f4249be03934394b924b259dadc8321ae7cb0487"), looks := false }, kinds := [], alts := [], laidByText := true, laidKinds := [.data, .pinned], laidTests := true, laidLooks := .later }
def FlowSelectsUptoCardSaid : Prop := Claim7.holds Tryz.pinned (.plain (OpenSpec.upto flowSelectsSpec)) flowSelectsUptoCard

/-- THE SECOND FORM's CARD OF 'watchbilllaw23.EngineFull'. -/
def engineFullUptoCard : Claim7 := { stood := { row := engineFullUptoRow, standIns := [], harness := (true, "3049bfe6760972a643ba83d8f4249be03934394b924b259dadc8321ae7cb0487"), looks := false }, kinds := [], alts := [], laidByText := true, laidKinds := [.data, .data, .data, .data, .pinned], laidTests := true, laidLooks := .later }
def EngineFullUptoCardSaid : Prop := Claim7.holds Tryz.pinned (.plain (OpenSpec.upto engineFullSpec)) engineFullUptoCard
end Rows
end Go.Proofs.YtdoddbmnmpgpmaaGreatDoor
