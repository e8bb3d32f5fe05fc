/-
  DERIVED. GIVEN WITH THE SEED: THE CARDS: each row of YtjlcfkdkongmmaaGreatDoorRows.lean that lists a variable, with what it lists TIED to the program's text (the seventh form; the later family's looks); each row that meets fmt, with fmt's text TOLD by the authors' own Lean function (tested against real Go, not proved from fmt's source: count such statements apart). THE CARD IS WHAT COUNTS. Prove the row's statement (the work); the ties are given (YtjlcfkdkongmmaaGreatDoorTie.lean); close each card by the builder's one call (the guide's Derived/Test/ToyasCard.lean, 'card_holds'). Laid BY PROGRAM, IN A SANDBOX (cutbox-door.mjs). By AI agents, Wed Nov 11 2026. No macro, syntax, notation, axiom, sorry.
-/
import Derived.Test.YtjlcfkdkongmmaaGreatDoorRows
import GoSem.ClaimSeven
namespace Go.Proofs.YtjlcfkdkongmmaaGreatDoor
namespace Rows

/-- THE TIED CARD OF 'watchbilllaw23.EngineSums'. -/
def engineSumsCard : Claim7 := { stood := { row := engineSumsRow, standIns := [], harness := (true, "2308b3895415da048ead196a74e9206b887238f651acc510ef482819e9c398f2"), looks := true }, kinds := [], alts := [], laidByText := true, laidKinds := [.data, .data, .data, .data, .pinned], laidTests := true, laidLooks := .later }
def EngineSumsCardSaid : Prop := Claim7.holds Tryz.pinned (.plain (OpenSpec.ofChange engineSumsSpec)) engineSumsCard

/-- THE TIED CARD OF 'watchbilllaw23.EngineCuts'. -/
def engineCutsCard : Claim7 := { stood := { row := engineCutsRow, standIns := [], harness := (true, "2308b3895415da048ead196a74e9206b887238f651acc510ef482819e9c398f2"), looks := true }, kinds := [], alts := [], laidByText := true, laidKinds := [.data, .data, .data, .data, .pinned], laidTests := true, laidLooks := .later }
def EngineCutsCardSaid : Prop := Claim7.holds Tryz.pinned (.plain (OpenSpec.ofChange engineCutsSpec)) engineCutsCard

/-- THE TIED CARD OF 'watchbilllaw24.ScriptIdle'. -/
def scriptIdleCard : Claim7 := { stood := { row := scriptIdleRow, standIns := [], harness := (true, "2308b3895415da048ead196a74e9206b887238f651acc510ef482819e9c398f2"), looks := true }, kinds := [], alts := [], laidByText := true, laidKinds := [.data, .data, .data, .data, .sentinel, .sentinel, .pinned], laidTests := true, laidLooks := .later }
def ScriptIdleCardSaid : Prop := Claim7.holds Tryz.pinned (.plain (OpenSpec.ofChange scriptIdleSpec)) scriptIdleCard

/-- THE SECOND FORM's CARD OF 'watchbilllaw23.EngineSums'. -/
def engineSumsUptoCard : Claim7 := { stood := { row := engineSumsUptoRow, standIns := [], harness := (true, "2308b3895415da048ead196a74e9206b887238f651acc510ef482819e9c398f2"), looks := true }, kinds := [], alts := [], laidByText := true, laidKinds := [.data, .data, .data, .data, .pinned], laidTests := true, laidLooks := .later }
def EngineSumsUptoCardSaid : Prop := Claim7.holds Tryz.pinned (.plain (OpenSpec.upto engineSumsSpec)) engineSumsUptoCard

/-- THE SECOND FORM's CARD OF 'watchbilllaw23.EngineCuts'. -/
def engineCutsUptoCard : Claim7 := { stood := { row := engineCutsUptoRow, standIns := [], harness := (true, "2308b3895415da048ead196a74e9206b887238f651acc510ef482819e9c398f2"), looks := true }, kinds := [], alts := [], laidByText := true, laidKinds := [.data, .data, .data, .data, .pinned], laidTests := true, laidLooks := .later }
def EngineCutsUptoCardSaid : Prop := Claim7.holds Tryz.pinned (.plain (OpenSpec.upto engineCutsSpec)) engineCutsUptoCard

/-- THE SECOND FORM's CARD OF 'watchbilllaw24.ScriptIdle'. -/
def scriptIdleUptoCard : Claim7 := { stood := { row := scriptIdleUptoRow, standIns := [], harness := (true, "2308b3895415da048ead196a74e9206b887238f651acc510ef482819e9c398f2"), looks := true }, kinds := [], alts := [], laidByText := true, laidKinds := [.data, .data, .data, .data, .sentinel, .sentinel, .pinned], laidTests := true, laidLooks := .later }
def ScriptIdleUptoCardSaid : Prop := Claim7.holds Tryz.pinned (.plain (OpenSpec.upto scriptIdleSpec)) scriptIdleUptoCard
end Rows
end Go.Proofs.YtjlcfkdkongmmaaGreatDoor
