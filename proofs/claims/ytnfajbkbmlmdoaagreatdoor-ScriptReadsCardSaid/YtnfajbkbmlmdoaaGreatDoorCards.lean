/-
  DERIVED. GIVEN WITH THE SEED: THE CARDS: each row of YtnfajbkbmlmdoaaGreatDoorRows.lean that lists a variable, with what it lists TIED to the program's text (the seventh form; the later family's looks); each row that meets fmt, with fmt's text TOLD by the authors' own Lean function (tested against real Go, not proved from fmt's source: count such statements apart). THE CARD IS WHAT COUNTS. Prove the row's statement (the work); the ties are given (YtnfajbkbmlmdoaaGreatDoorTie.lean); close each card by the builder's one call (the guide's Derived/Test/ToyasCard.lean, 'card_holds'). Laid BY PROGRAM, IN A SANDBOX (cutbox-door.mjs). By AI agents, Wed Nov 11 2026. No macro, syntax, notation, axiom, sorry.
-/
import Derived.Test.YtnfajbkbmlmdoaaGreatDoorRows
import GoSem.ClaimSeven
namespace Go.Proofs.YtnfajbkbmlmdoaaGreatDoor
namespace Rows

/-- THE TIED CARD OF 'watchbilllaw24.ScriptTells'. -/
def scriptTellsCard : Claim7 := { stood := { row := scriptTellsRow, standIns := [], harness := (true, "c66e76124bf0ba813d1948cb1563ae7aa6a96eb12b6756cdbc1388d172234eac"), looks := true }, kinds := [], alts := [], laidByText := true, laidKinds := [.data, .data, .data, .data, .sentinel, .sentinel, .pinned], laidTests := true, laidLooks := .later }
def ScriptTellsCardSaid : Prop := Claim7.holds Tryz.pinned (.plain (OpenSpec.ofChange scriptTellsSpec)) scriptTellsCard

/-- THE TIED CARD OF 'watchbilllaw24.ScriptReads'. -/
def scriptReadsCard : Claim7 := { stood := { row := scriptReadsRow, standIns := [], harness := (true, "c66e76124bf0ba813d1948cb1563ae7aa6a96eb12b6756cdbc1388d172234eac"), looks := true }, kinds := [], alts := [], laidByText := true, laidKinds := [.data, .data, .data, .data, .sentinel, .sentinel, .pinned], laidTests := true, laidLooks := .later }
def ScriptReadsCardSaid : Prop := Claim7.holds Tryz.pinned (.plain (OpenSpec.ofChange scriptReadsSpec)) scriptReadsCard

/-- THE TIED CARD OF 'watchbilllaw24.ScriptSizes'. -/
def scriptSizesCard : Claim7 := { stood := { row := scriptSizesRow, standIns := [], harness := (true, "c66e76124bf0ba813d1948cb1563ae7aa6a96eb12b6756cdbc1388d172234eac"), looks := true }, kinds := [], alts := [], laidByText := true, laidKinds := [.data, .data, .data, .data, .sentinel, .sentinel, .pinned], laidTests := true, laidLooks := .later }
def ScriptSizesCardSaid : Prop := Claim7.holds Tryz.pinned (.plain (OpenSpec.ofChange scriptSizesSpec)) scriptSizesCard

/-- THE SECOND FORM's CARD OF 'watchbilllaw24.ScriptTells'. -/
def scriptTellsUptoCard : Claim7 := { stood := { row := scriptTellsUptoRow, standIns := [], harness := (true, "c66e76124bf0ba813d1948cb1563ae7aa6a96eb12b6756cdbc1388d172234eac"), looks := true }, kinds := [], alts := [], laidByText := true, laidKinds := [.data, .data, .data, .data, .sentinel, .sentinel, .pinned], laidTests := true, laidLooks := .later }
def ScriptTellsUptoCardSaid : Prop := Claim7.holds Tryz.pinned (.plain (OpenSpec.upto scriptTellsSpec)) scriptTellsUptoCard

/-- THE SECOND FORM's CARD OF 'watchbilllaw24.ScriptReads'. -/
def scriptReadsUptoCard : Claim7 := { stood := { row := scriptReadsUptoRow, standIns := [], harness := (true, "c66e76124bf0ba813d1948cb1563ae7aa6a96eb12b6756cdbc1388d172234eac"), looks := true }, kinds := [], alts := [], laidByText := true, laidKinds := [.data, .data, .data, .data, .sentinel, .sentinel, .pinned], laidTests := true, laidLooks := .later }
def ScriptReadsUptoCardSaid : Prop := Claim7.holds Tryz.pinned (.plain (OpenSpec.upto scriptReadsSpec)) scriptReadsUptoCard

/-- THE SECOND FORM's CARD OF 'watchbilllaw24.ScriptSizes'. -/
def scriptSizesUptoCard : Claim7 := { stood := { row := scriptSizesUptoRow, standIns := [], harness := (true, "c66e76124bf0ba813d1948cb1563ae7aa6a96eb12b6756cdbc1388d172234eac"), looks := true }, kinds := [], alts := [], laidByText := true, laidKinds := [.data, .data, .data, .data, .sentinel, .sentinel, .pinned], laidTests := true, laidLooks := .later }
def ScriptSizesUptoCardSaid : Prop := Claim7.holds Tryz.pinned (.plain (OpenSpec.upto scriptSizesSpec)) scriptSizesUptoCard
end Rows
end Go.Proofs.YtnfajbkbmlmdoaaGreatDoor
