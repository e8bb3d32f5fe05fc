/-
  DERIVED. GIVEN WITH THE SEED: THE CARDS: each row of YtkgaiedbbhadnaaGreatDoorRows.lean that lists a variable, with what it lists TIED to the program's text (the seventh form; the later family's looks); each row that meets fmt, with fmt's text TOLD by the authors' own Lean function (tested against real Go, not proved from fmt's source: count such statements apart). THE CARD IS WHAT COUNTS. Prove the row's statement (the work); the ties are given (YtkgaiedbbhadnaaGreatDoorTie.lean); close each card by the builder's one call (the guide's Derived/Test/ToyasCard.lean, 'card_holds'). Laid BY PROGRAM, IN A SANDBOX (cutbox-door.mjs). By AI agents, Wed Nov 11 2026. No macro, syntax, notation, axiom, sorry.
-/
import Derived.Test.YtkgaiedbbhadnaaGreatDoorRows
import GoSem.ClaimSeven
namespace Go.Proofs.YtkgaiedbbhadnaaGreatDoor
namespace Rows

/-- THE TIED CARD OF 'watchbilllaw5.OpAny'. -/
def opAnyCard : Claim7 := { stood := { row := opAnyRow, standIns := [], harness := (true, "a420357fbe3202d2810d38468d333408b237e54920d81a3dec41858be8edacb6"), looks := true }, kinds := [], alts := [], laidByText := true, laidKinds := [.data, .data, .data, .data, .sentinel, .sentinel, .pinned], laidTests := true, laidLooks := .later }
def OpAnyCardSaid : Prop := Claim7.holds Tryz.pinned (.plain (OpenSpec.ofChange opAnySpec)) opAnyCard

/-- THE TIED CARD OF 'watchbilllaw5.OpReads'. -/
def opReadsCard : Claim7 := { stood := { row := opReadsRow, standIns := [], harness := (true, "a420357fbe3202d2810d38468d333408b237e54920d81a3dec41858be8edacb6"), looks := true }, kinds := [], alts := [], laidByText := true, laidKinds := [.data, .data, .data, .data, .sentinel, .sentinel, .pinned], laidTests := true, laidLooks := .later }
def OpReadsCardSaid : Prop := Claim7.holds Tryz.pinned (.plain (OpenSpec.ofChange opReadsSpec)) opReadsCard

/-- THE TIED CARD OF 'watchbilllaw5.OpApart'. -/
def opApartCard : Claim7 := { stood := { row := opApartRow, standIns := [], harness := (true, "a420357fbe3202d2810d38468d333408b237e54920d81a3dec41858be8edacb6"), looks := true }, kinds := [], alts := [], laidByText := true, laidKinds := [.data, .data, .data, .data, .sentinel, .sentinel, .pinned], laidTests := true, laidLooks := .later }
def OpApartCardSaid : Prop := Claim7.holds Tryz.pinned (.plain (OpenSpec.ofChange opApartSpec)) opApartCard

/-- THE TIED CARD OF 'watchbilllaw8.TextTells'. -/
def textTellsCard : Claim7 := { stood := { row := textTellsRow, standIns := [], harness := (true, "a420357fbe3202d2810d38468d333408b237e54920d81a3dec41858be8edacb6"), looks := true }, kinds := [], alts := [], laidByText := true, laidKinds := [.data, .data, .data, .data, .sentinel, .sentinel, .pinned], laidTests := true, laidLooks := .later }
def TextTellsCardSaid : Prop := Claim7.holds Tryz.pinned (.plain (OpenSpec.ofChange textTellsSpec)) textTellsCard

/-- THE TIED CARD OF 'watchbilllaw8.TextReads'. -/
def textReadsCard : Claim7 := { stood := { row := textReadsRow, standIns := [], harness := (true, "a420357fbe3202d2810d38468d333408b237e54920d81a3dec41858be8edacb6"), looks := true }, kinds := [], alts := [], laidByText := true, laidKinds := [.data, .data, .data, .data, .sentinel, .sentinel, .pinned], laidTests := true, laidLooks := .later }
def TextReadsCardSaid : Prop := Claim7.holds Tryz.pinned (.plain (OpenSpec.ofChange textReadsSpec)) textReadsCard

/-- THE TIED CARD OF 'watchbilllaw8.TextLines'. -/
def textLinesCard : Claim7 := { stood := { row := textLinesRow, standIns := [], harness := (true, "a420357fbe3202d2810d38468d333408b237e54920d81a3dec41858be8edacb6"), looks := true }, kinds := [], alts := [], laidByText := true, laidKinds := [.data, .data, .data, .data, .sentinel, .sentinel, .pinned], laidTests := true, laidLooks := .later }
def TextLinesCardSaid : Prop := Claim7.holds Tryz.pinned (.plain (OpenSpec.ofChange textLinesSpec)) textLinesCard

/-- THE TIED CARD OF 'watchbilllaw8.TextLongs'. -/
def textLongsCard : Claim7 := { stood := { row := textLongsRow, standIns := [], harness := (true, "a420357fbe3202d2810d38468d333408b237e54920d81a3dec41858be8edacb6"), looks := true }, kinds := [], alts := [], laidByText := true, laidKinds := [.data, .data, .data, .data, .sentinel, .sentinel, .pinned], laidTests := true, laidLooks := .later }
def TextLongsCardSaid : Prop := Claim7.holds Tryz.pinned (.plain (OpenSpec.ofChange textLongsSpec)) textLongsCard

/-- THE SECOND FORM's CARD OF 'watchbilllaw5.OpAny'. -/
def opAnyUptoCard : Claim7 := { stood := { row := opAnyUptoRow, standIns := [], harness := (true, "a420357fbe3202d2810d38468d333408b237e54920d81a3dec41858be8edacb6"), looks := true }, kinds := [], alts := [], laidByText := true, laidKinds := [.data, .data, .data, .data, .sentinel, .sentinel, .pinned], laidTests := true, laidLooks := .later }
def OpAnyUptoCardSaid : Prop := Claim7.holds Tryz.pinned (.plain (OpenSpec.upto opAnySpec)) opAnyUptoCard

/-- THE SECOND FORM's CARD OF 'watchbilllaw5.OpReads'. -/
def opReadsUptoCard : Claim7 := { stood := { row := opReadsUptoRow, standIns := [], harness := (true, "a420357fbe3202d2810d38468d333408b237e54920d81a3dec41858be8edacb6"), looks := true }, kinds := [], alts := [], laidByText := true, laidKinds := [.data, .data, .data, .data, .sentinel, .sentinel, .pinned], laidTests := true, laidLooks := .later }
def OpReadsUptoCardSaid : Prop := Claim7.holds Tryz.pinned (.plain (OpenSpec.upto opReadsSpec)) opReadsUptoCard

/-- THE SECOND FORM's CARD OF 'watchbilllaw5.OpApart'. -/
def opApartUptoCard : Claim7 := { stood := { row := opApartUptoRow, standIns := [], harness := (true, "a420357fbe3202d2810d38468d333408b237e54920d81a3dec41858be8edacb6"), looks := true }, kinds := [], alts := [], laidByText := true, laidKinds := [.data, .data, .data, .data, .sentinel, .sentinel, .pinned], laidTests := true, laidLooks := .later }
def OpApartUptoCardSaid : Prop := Claim7.holds Tryz.pinned (.plain (OpenSpec.upto opApartSpec)) opApartUptoCard

/-- THE SECOND FORM's CARD OF 'watchbilllaw8.TextTells'. -/
def textTellsUptoCard : Claim7 := { stood := { row := textTellsUptoRow, standIns := [], harness := (true, "a420357fbe3202d2810d38468d333408b237e54920d81a3dec41858be8edacb6"), looks := true }, kinds := [], alts := [], laidByText := true, laidKinds := [.data, .data, .data, .data, .sentinel, .sentinel, .pinned], laidTests := true, laidLooks := .later }
def TextTellsUptoCardSaid : Prop := Claim7.holds Tryz.pinned (.plain (OpenSpec.upto textTellsSpec)) textTellsUptoCard

/-- THE SECOND FORM's CARD OF 'watchbilllaw8.TextReads'. -/
def textReadsUptoCard : Claim7 := { stood := { row := textReadsUptoRow, standIns := [], harness := (true, "a420357fbe3202d2810d38468d333408b237e54920d81a3dec41858be8edacb6"), looks := true }, kinds := [], alts := [], laidByText := true, laidKinds := [.data, .data, .data, .data, .sentinel, .sentinel, .pinned], laidTests := true, laidLooks := .later }
def TextReadsUptoCardSaid : Prop := Claim7.holds Tryz.pinned (.plain (OpenSpec.upto textReadsSpec)) textReadsUptoCard

/-- THE SECOND FORM's CARD OF 'watchbilllaw8.TextLines'. -/
def textLinesUptoCard : Claim7 := { stood := { row := textLinesUptoRow, standIns := [], harness := (true, "a420357fbe3202d2810d38468d333408b237e54920d81a3dec41858be8edacb6"), looks := true }, kinds := [], alts := [], laidByText := true, laidKinds := [.data, .data, .data, .data, .sentinel, .sentinel, .pinned], laidTests := true, laidLooks := .later }
def TextLinesUptoCardSaid : Prop := Claim7.holds Tryz.pinned (.plain (OpenSpec.upto textLinesSpec)) textLinesUptoCard

/-- THE SECOND FORM's CARD OF 'watchbilllaw8.TextLongs'. -/
def textLongsUptoCard : Claim7 := { stood := { row := textLongsUptoRow, standIns := [], harness := (true, "a420357fbe3202d2810d38468d333408b237e54920d81a3dec41858be8edacb6"), looks := true }, kinds := [], alts := [], laidByText := true, laidKinds := [.data, .data, .data, .data, .sentinel, .sentinel, .pinned], laidTests := true, laidLooks := .later }
def TextLongsUptoCardSaid : Prop := Claim7.holds Tryz.pinned (.plain (OpenSpec.upto textLongsSpec)) textLongsUptoCard
end Rows
end Go.Proofs.YtkgaiedbbhadnaaGreatDoor
