/-
  DERIVED. GIVEN WITH THE SEED: THE CARDS: each row of YtkgaiedbbhadnaaDoorRows.lean that lists a variable, with what it lists TIED to the program's text (the seventh form; the later family's looks); each row that meets fmt, with fmt's text TOLD by the authors' own Lean function (tested against real Go, not proved from fmt's source: count such statements apart). THE CARD IS WHAT COUNTS. Prove the row's statement (the work); the ties are given (YtkgaiedbbhadnaaDoorTie.lean); close each card by the builder's one call (the guide's Derived/Test/ToyasCard.lean, 'card_holds'). Laid BY PROGRAM, IN A SANDBOX (cutbox-door.mjs). By AI agents, Wed Nov 11 2026. No macro, syntax, notation, axiom, sorry.
-/
import Derived.Test.YtkgaiedbbhadnaaDoorRows
import GoSem.ClaimSeven
namespace Go.Proofs.YtkgaiedbbhadnaaDoor
namespace Rows

/-- THE TIED CARD OF 'watchbilllaw5.OpNumbers'. -/
def opNumbersCard : Claim7 := { stood := { row := opNumbersRow, standIns := [], harness := (true, "87783a612ace11ac0174db2e051935afdafa431163d0603fd99104f1aa8acab0"), looks := true }, kinds := [], alts := [], laidByText := true, laidKinds := [.data, .data, .data, .data, .sentinel, .sentinel, .pinned], laidTests := true, laidLooks := .later }
def OpNumbersCardSaid : Prop := Claim7.holds Tryd.pinned (.plain (OpenSpec.ofChange opNumbersSpec)) opNumbersCard

/-- THE TIED CARD OF 'watchbilllaw5.OpCases'. -/
def opCasesCard : Claim7 := { stood := { row := opCasesRow, standIns := [], harness := (true, "87783a612ace11ac0174db2e051935afdafa431163d0603fd99104f1aa8acab0"), looks := true }, kinds := [], alts := [], laidByText := true, laidKinds := [.data, .data, .data, .data, .sentinel, .sentinel, .pinned], laidTests := true, laidLooks := .later }
def OpCasesCardSaid : Prop := Claim7.holds Tryd.pinned (.plain (OpenSpec.ofChange opCasesSpec)) opCasesCard

/-- THE SECOND FORM's CARD OF 'watchbilllaw5.OpNumbers'. -/
def opNumbersUptoCard : Claim7 := { stood := { row := opNumbersUptoRow, standIns := [], harness := (true, "87783a612ace11ac0174db2e051935afdafa431163d0603fd99104f1aa8acab0"), looks := true }, kinds := [], alts := [], laidByText := true, laidKinds := [.data, .data, .data, .data, .sentinel, .sentinel, .pinned], laidTests := true, laidLooks := .later }
def OpNumbersUptoCardSaid : Prop := Claim7.holds Tryd.pinned (.plain (OpenSpec.upto opNumbersSpec)) opNumbersUptoCard

/-- THE SECOND FORM's CARD OF 'watchbilllaw5.OpCases'. -/
def opCasesUptoCard : Claim7 := { stood := { row := opCasesUptoRow, standIns := [], harness := (true, "87783a612ace11ac0174db2e051935afdafa431163d0603fd99104f1aa8acab0"), looks := true }, kinds := [], alts := [], laidByText := true, laidKinds := [.data, .data, .data, .data, .sentinel, .sentinel, .pinned], laidTests := true, laidLooks := .later }
def OpCasesUptoCardSaid : Prop := Claim7.holds Tryd.pinned (.plain (OpenSpec.upto opCasesSpec)) opCasesUptoCard
end Rows
end Go.Proofs.YtkgaiedbbhadnaaDoor
