/-
  DERIVED. GIVEN WITH THE SEED: THE CARDS: each row of YtiegjnklhafloaaDoorRows.lean that lists a variable, with what it lists TIED to the program's text (the seventh form; the later family's looks); each row that meets fmt, with fmt's text TOLD by the authors' own Lean function (tested against real Go, not proved from fmt's source: count such statements apart). THE CARD IS WHAT COUNTS. Prove the row's statement (the work); the ties are given (YtiegjnklhafloaaDoorTie.lean); close each card by the builder's one call (the guide's Derived/Test/ToyasCard.lean, 'card_holds'). Laid BY PROGRAM, IN A SANDBOX (cutbox-door.mjs). By AI agents, Wed Nov 11 2026. No macro, syntax, notation, axiom, sorry.
-/
import Derived.Test.YtiegjnklhafloaaDoorRows
import GoSem.ClaimSeven
namespace Go.Proofs.YtiegjnklhafloaaDoor
namespace Rows

/-- THE TIED CARD OF 'watchbilllaw4.WordAny'. -/
def wordAnyCard : Claim7 := { stood := { row := wordAnyRow, standIns := [], harness := (true, "7c6f7b902114c129c6eee9bbefadd336c69aa9aefb85892e9304d0c0e18d7f94"), looks := true }, kinds := [], alts := [], laidByText := true, laidKinds := [.data, .data, .data, .data, .sentinel, .sentinel, .pinned], laidTests := true, laidLooks := .later }
def WordAnyCardSaid : Prop := Claim7.holds Tryd.pinned (.plain (OpenSpec.ofChange wordAnySpec)) wordAnyCard

/-- THE TIED CARD OF 'watchbilllaw4.WordNumbers'. -/
def wordNumbersCard : Claim7 := { stood := { row := wordNumbersRow, standIns := [], harness := (true, "7c6f7b902114c129c6eee9bbefadd336c69aa9aefb85892e9304d0c0e18d7f94"), looks := true }, kinds := [], alts := [], laidByText := true, laidKinds := [.data, .data, .data, .data, .sentinel, .sentinel, .pinned], laidTests := true, laidLooks := .later }
def WordNumbersCardSaid : Prop := Claim7.holds Tryd.pinned (.plain (OpenSpec.ofChange wordNumbersSpec)) wordNumbersCard

/-- THE TIED CARD OF 'watchbilllaw4.WordJoins'. -/
def wordJoinsCard : Claim7 := { stood := { row := wordJoinsRow, standIns := [], harness := (true, "7c6f7b902114c129c6eee9bbefadd336c69aa9aefb85892e9304d0c0e18d7f94"), looks := true }, kinds := [], alts := [], laidByText := true, laidKinds := [.data, .data, .data, .data, .sentinel, .sentinel, .pinned], laidTests := true, laidLooks := .later }
def WordJoinsCardSaid : Prop := Claim7.holds Tryd.pinned (.plain (OpenSpec.ofChange wordJoinsSpec)) wordJoinsCard

/-- THE TIED CARD OF 'watchbilllaw4.WordEnds'. -/
def wordEndsCard : Claim7 := { stood := { row := wordEndsRow, standIns := [], harness := (true, "7c6f7b902114c129c6eee9bbefadd336c69aa9aefb85892e9304d0c0e18d7f94"), looks := true }, kinds := [], alts := [], laidByText := true, laidKinds := [.data, .data, .data, .data, .sentinel, .sentinel, .pinned], laidTests := true, laidLooks := .later }
def WordEndsCardSaid : Prop := Claim7.holds Tryd.pinned (.plain (OpenSpec.ofChange wordEndsSpec)) wordEndsCard

/-- THE TIED CARD OF 'watchbilllaw4.WordOrder'. -/
def wordOrderCard : Claim7 := { stood := { row := wordOrderRow, standIns := [], harness := (true, "7c6f7b902114c129c6eee9bbefadd336c69aa9aefb85892e9304d0c0e18d7f94"), looks := true }, kinds := [], alts := [], laidByText := true, laidKinds := [.data, .data, .data, .data, .sentinel, .sentinel, .pinned], laidTests := true, laidLooks := .later }
def WordOrderCardSaid : Prop := Claim7.holds Tryd.pinned (.plain (OpenSpec.ofChange wordOrderSpec)) wordOrderCard

/-- THE TIED CARD OF 'watchbilllaw4.WordNames'. -/
def wordNamesCard : Claim7 := { stood := { row := wordNamesRow, standIns := [], harness := (true, "7c6f7b902114c129c6eee9bbefadd336c69aa9aefb85892e9304d0c0e18d7f94"), looks := true }, kinds := [], alts := [], laidByText := true, laidKinds := [.data, .data, .data, .data, .sentinel, .sentinel, .pinned], laidTests := true, laidLooks := .later }
def WordNamesCardSaid : Prop := Claim7.holds Tryd.pinned (.plain (OpenSpec.ofChange wordNamesSpec)) wordNamesCard

/-- THE TIED CARD OF 'watchbilllaw21.EventAny'. -/
def eventAnyCard : Claim7 := { stood := { row := eventAnyRow, standIns := [], harness := (true, "7c6f7b902114c129c6eee9bbefadd336c69aa9aefb85892e9304d0c0e18d7f94"), looks := true }, kinds := [], alts := [], laidByText := true, laidKinds := [.data, .data, .data, .data, .sentinel, .sentinel, .pinned], laidTests := true, laidLooks := .later }
def EventAnyCardSaid : Prop := Claim7.holds Tryd.pinned (.plain (OpenSpec.ofChange eventAnySpec)) eventAnyCard

/-- THE TIED CARD OF 'watchbilllaw21.EventReads'. -/
def eventReadsCard : Claim7 := { stood := { row := eventReadsRow, standIns := [], harness := (true, "7c6f7b902114c129c6eee9bbefadd336c69aa9aefb85892e9304d0c0e18d7f94"), looks := true }, kinds := [], alts := [], laidByText := true, laidKinds := [.data, .data, .data, .data, .sentinel, .sentinel, .pinned], laidTests := true, laidLooks := .later }
def EventReadsCardSaid : Prop := Claim7.holds Tryd.pinned (.plain (OpenSpec.ofChange eventReadsSpec)) eventReadsCard

/-- THE TIED CARD OF 'watchbilllaw21.EventFields'. -/
def eventFieldsCard : Claim7 := { stood := { row := eventFieldsRow, standIns := [], harness := (true, "7c6f7b902114c129c6eee9bbefadd336c69aa9aefb85892e9304d0c0e18d7f94"), looks := true }, kinds := [], alts := [], laidByText := true, laidKinds := [.data, .data, .data, .data, .sentinel, .sentinel, .pinned], laidTests := true, laidLooks := .later }
def EventFieldsCardSaid : Prop := Claim7.holds Tryd.pinned (.plain (OpenSpec.ofChange eventFieldsSpec)) eventFieldsCard

/-- THE TIED CARD OF 'watchbilllaw21.EventApart'. -/
def eventApartCard : Claim7 := { stood := { row := eventApartRow, standIns := [], harness := (true, "7c6f7b902114c129c6eee9bbefadd336c69aa9aefb85892e9304d0c0e18d7f94"), looks := true }, kinds := [], alts := [], laidByText := true, laidKinds := [.data, .data, .data, .data, .sentinel, .sentinel, .pinned], laidTests := true, laidLooks := .later }
def EventApartCardSaid : Prop := Claim7.holds Tryd.pinned (.plain (OpenSpec.ofChange eventApartSpec)) eventApartCard

/-- THE TIED CARD OF 'watchbilllaw21.EventLines'. -/
def eventLinesCard : Claim7 := { stood := { row := eventLinesRow, standIns := [], harness := (true, "7c6f7b902114c129c6eee9bbefadd336c69aa9aefb85892e9304d0c0e18d7f94"), looks := true }, kinds := [], alts := [], laidByText := true, laidKinds := [.data, .data, .data, .data, .sentinel, .sentinel, .pinned], laidTests := true, laidLooks := .later }
def EventLinesCardSaid : Prop := Claim7.holds Tryd.pinned (.plain (OpenSpec.ofChange eventLinesSpec)) eventLinesCard

/-- THE SECOND FORM's CARD OF 'watchbilllaw4.WordAny'. -/
def wordAnyUptoCard : Claim7 := { stood := { row := wordAnyUptoRow, standIns := [], harness := (true, "7c6f7b902114c129c6eee9bbefadd336c69aa9aefb85892e9304d0c0e18d7f94"), looks := true }, kinds := [], alts := [], laidByText := true, laidKinds := [.data, .data, .data, .data, .sentinel, .sentinel, .pinned], laidTests := true, laidLooks := .later }
def WordAnyUptoCardSaid : Prop := Claim7.holds Tryd.pinned (.plain (OpenSpec.upto wordAnySpec)) wordAnyUptoCard

/-- THE SECOND FORM's CARD OF 'watchbilllaw4.WordNumbers'. -/
def wordNumbersUptoCard : Claim7 := { stood := { row := wordNumbersUptoRow, standIns := [], harness := (true, "7c6f7b902114c129c6eee9bbefadd336c69aa9aefb85892e9304d0c0e18d7f94"), looks := true }, kinds := [], alts := [], laidByText := true, laidKinds := [.data, .data, .data, .data, .sentinel, .sentinel, .pinned], laidTests := true, laidLooks := .later }
def WordNumbersUptoCardSaid : Prop := Claim7.holds Tryd.pinned (.plain (OpenSpec.upto wordNumbersSpec)) wordNumbersUptoCard

/-- THE SECOND FORM's CARD OF 'watchbilllaw4.WordJoins'. -/
def wordJoinsUptoCard : Claim7 := { stood := { row := wordJoinsUptoRow, standIns := [], harness := (true, "7c6f7b902114c129c6eee9bbefadd336c69aa9aefb85892e9304d0c0e18d7f94"), looks := true }, kinds := [], alts := [], laidByText := true, laidKinds := [.data, .data, .data, .data, .sentinel, .sentinel, .pinned], laidTests := true, laidLooks := .later }
def WordJoinsUptoCardSaid : Prop := Claim7.holds Tryd.pinned (.plain (OpenSpec.upto wordJoinsSpec)) wordJoinsUptoCard

/-- THE SECOND FORM's CARD OF 'watchbilllaw4.WordEnds'. -/
def wordEndsUptoCard : Claim7 := { stood := { row := wordEndsUptoRow, standIns := [], harness := (true, "7c6f7b902114c129c6eee9bbefadd336c69aa9aefb85892e9304d0c0e18d7f94"), looks := true }, kinds := [], alts := [], laidByText := true, laidKinds := [.data, .data, .data, .data, .sentinel, .sentinel, .pinned], laidTests := true, laidLooks := .later }
def WordEndsUptoCardSaid : Prop := Claim7.holds Tryd.pinned (.plain (OpenSpec.upto wordEndsSpec)) wordEndsUptoCard

/-- THE SECOND FORM's CARD OF 'watchbilllaw4.WordOrder'. -/
def wordOrderUptoCard : Claim7 := { stood := { row := wordOrderUptoRow, standIns := [], harness := (true, "7c6f7b902114c129c6eee9bbefadd336c69aa9aefb85892e9304d0c0e18d7f94"), looks := true }, kinds := [], alts := [], laidByText := true, laidKinds := [.data, .data, .data, .data, .sentinel, .sentinel, .pinned], laidTests := true, laidLooks := .later }
def WordOrderUptoCardSaid : Prop := Claim7.holds Tryd.pinned (.plain (OpenSpec.upto wordOrderSpec)) wordOrderUptoCard

/-- THE SECOND FORM's CARD OF 'watchbilllaw4.WordNames'. -/
def wordNamesUptoCard : Claim7 := { stood := { row := wordNamesUptoRow, standIns := [], harness := (true, "7c6f7b902114c129c6eee9bbefadd336c69aa9aefb85892e9304d0c0e18d7f94"), looks := true }, kinds := [], alts := [], laidByText := true, laidKinds := [.data, .data, .data, .data, .sentinel, .sentinel, .pinned], laidTests := true, laidLooks := .later }
def WordNamesUptoCardSaid : Prop := Claim7.holds Tryd.pinned (.plain (OpenSpec.upto wordNamesSpec)) wordNamesUptoCard

/-- THE SECOND FORM's CARD OF 'watchbilllaw21.EventAny'. -/
def eventAnyUptoCard : Claim7 := { stood := { row := eventAnyUptoRow, standIns := [], harness := (true, "7c6f7b902114c129c6eee9bbefadd336c69aa9aefb85892e9304d0c0e18d7f94"), looks := true }, kinds := [], alts := [], laidByText := true, laidKinds := [.data, .data, .data, .data, .sentinel, .sentinel, .pinned], laidTests := true, laidLooks := .later }
def EventAnyUptoCardSaid : Prop := Claim7.holds Tryd.pinned (.plain (OpenSpec.upto eventAnySpec)) eventAnyUptoCard

/-- THE SECOND FORM's CARD OF 'watchbilllaw21.EventReads'. -/
def eventReadsUptoCard : Claim7 := { stood := { row := eventReadsUptoRow, standIns := [], harness := (true, "7c6f7b902114c129c6eee9bbefadd336c69aa9aefb85892e9304d0c0e18d7f94"), looks := true }, kinds := [], alts := [], laidByText := true, laidKinds := [.data, .data, .data, .data, .sentinel, .sentinel, .pinned], laidTests := true, laidLooks := .later }
def EventReadsUptoCardSaid : Prop := Claim7.holds Tryd.pinned (.plain (OpenSpec.upto eventReadsSpec)) eventReadsUptoCard

/-- THE SECOND FORM's CARD OF 'watchbilllaw21.EventFields'. -/
def eventFieldsUptoCard : Claim7 := { stood := { row := eventFieldsUptoRow, standIns := [], harness := (true, "7c6f7b902114c129c6eee9bbefadd336c69aa9aefb85892e9304d0c0e18d7f94"), looks := true }, kinds := [], alts := [], laidByText := true, laidKinds := [.data, .data, .data, .data, .sentinel, .sentinel, .pinned], laidTests := true, laidLooks := .later }
def EventFieldsUptoCardSaid : Prop := Claim7.holds Tryd.pinned (.plain (OpenSpec.upto eventFieldsSpec)) eventFieldsUptoCard

/-- THE SECOND FORM's CARD OF 'watchbilllaw21.EventApart'. -/
def eventApartUptoCard : Claim7 := { stood := { row := eventApartUptoRow, standIns := [], harness := (true, "7c6f7b902114c129c6eee9bbefadd336c69aa9aefb85892e9304d0c0e18d7f94"), looks := true }, kinds := [], alts := [], laidByText := true, laidKinds := [.data, .data, .data, .data, .sentinel, .sentinel, .pinned], laidTests := true, laidLooks := .later }
def EventApartUptoCardSaid : Prop := Claim7.holds Tryd.pinned (.plain (OpenSpec.upto eventApartSpec)) eventApartUptoCard

/-- THE SECOND FORM's CARD OF 'watchbilllaw21.EventLines'. -/
def eventLinesUptoCard : Claim7 := { stood := { row := eventLinesUptoRow, standIns := [], harness := (true, "7c6f7b902114c129c6eee9bbefadd336c69aa9aefb85892e9304d0c0e18d7f94"), looks := true }, kinds := [], alts := [], laidByText := true, laidKinds := [.data, .data, .data, .data, .sentinel, .sentinel, .pinned], laidTests := true, laidLooks := .later }
def EventLinesUptoCardSaid : Prop := Claim7.holds Tryd.pinned (.plain (OpenSpec.upto eventLinesSpec)) eventLinesUptoCard
end Rows
end Go.Proofs.YtiegjnklhafloaaDoor
