/-
  DERIVED. GIVEN WITH THE SEED: THE CARDS: each row of YtfdhgcladnbdeaaGreatDoorRows.lean that lists a variable, with what it lists TIED to the program's text (the seventh form; the later family's looks); each row that meets fmt, with fmt's text TOLD by the authors' own Lean function (tested against real Go, not proved from fmt's source: count such statements apart). THE CARD IS WHAT COUNTS. Prove the row's statement (the work); the ties are given (YtfdhgcladnbdeaaGreatDoorTie.lean); close each card by the builder's one call (the guide's Derived/Test/ToyasCard.lean, 'card_holds'). Laid BY PROGRAM, IN A SANDBOX (cutbox-door.mjs). By AI agents, Wed Nov 11 2026. No macro, syntax, notation, axiom, sorry.
-/
import Derived.Test.YtfdhgcladnbdeaaGreatDoorRows
import GoSem.ClaimSeven
namespace Go.Proofs.YtfdhgcladnbdeaaGreatDoor
namespace Rows

/-- THE TIED CARD OF 'farandolelaw25.ProjectMachines'. -/
def projectMachinesCard : Claim7 := { stood := { row := projectMachinesRow, standIns := [], harness := (true, "84b19daadefb54e1d202333be1a5b855ab0c2b07660887d82cdcf2494aa9096e"), looks := false }, kinds := [], alts := [], laidByText := true, laidKinds := [.data, .data, .pinned], laidTests := true, laidLooks := .later }
def ProjectMachinesCardSaid : Prop := Claim7.holds Tryz.pinned (.plain (OpenSpec.ofChange projectMachinesSpec)) projectMachinesCard

/-- THE TIED CARD OF 'farandolelaw25.ProjectMinimal'. -/
def projectMinimalCard : Claim7 := { stood := { row := projectMinimalRow, standIns := [], harness := (true, "84b19daadefb54e1d202333be1a5b855ab0c2b07660887d82cdcf2494aa9096e"), looks := false }, kinds := [], alts := [], laidByText := true, laidKinds := [.data, .data, .pinned], laidTests := true, laidLooks := .later }
def ProjectMinimalCardSaid : Prop := Claim7.holds Tryz.pinned (.plain (OpenSpec.ofChange projectMinimalSpec)) projectMinimalCard

/-- THE TIED CARD OF 'farandolelaw25.ProjectChoices'. -/
def projectChoicesCard : Claim7 := { stood := { row := projectChoicesRow, standIns := [], harness := (true, "84b19daadefb54e1d202333be1a5b855ab0c2b07660887d82cdcf2494aa9096e"), looks := false }, kinds := [], alts := [], laidByText := true, laidKinds := [.data, .data, .pinned], laidTests := true, laidLooks := .later }
def ProjectChoicesCardSaid : Prop := Claim7.holds Tryz.pinned (.plain (OpenSpec.ofChange projectChoicesSpec)) projectChoicesCard

/-- THE TIED CARD OF 'farandolelaw25.ProjectCanonical'. -/
def projectCanonicalCard : Claim7 := { stood := { row := projectCanonicalRow, standIns := [], harness := (true, "84b19daadefb54e1d202333be1a5b855ab0c2b07660887d82cdcf2494aa9096e"), looks := false }, kinds := [], alts := [], laidByText := true, laidKinds := [.data, .data, .pinned], laidTests := true, laidLooks := .later }
def ProjectCanonicalCardSaid : Prop := Claim7.holds Tryz.pinned (.plain (OpenSpec.ofChange projectCanonicalSpec)) projectCanonicalCard

/-- THE TIED CARD OF 'farandolelaw25.ProjectHistories'. -/
def projectHistoriesCard : Claim7 := { stood := { row := projectHistoriesRow, standIns := [], harness := (true, "84b19daadefb54e1d202333be1a5b855ab0c2b07660887d82cdcf2494aa9096e"), looks := false }, kinds := [], alts := [], laidByText := true, laidKinds := [.data, .data, .pinned], laidTests := true, laidLooks := .later }
def ProjectHistoriesCardSaid : Prop := Claim7.holds Tryz.pinned (.plain (OpenSpec.ofChange projectHistoriesSpec)) projectHistoriesCard

/-- THE TIED CARD OF 'farandolelaw25.ProjectNumbers'. -/
def projectNumbersCard : Claim7 := { stood := { row := projectNumbersRow, standIns := [], harness := (true, "84b19daadefb54e1d202333be1a5b855ab0c2b07660887d82cdcf2494aa9096e"), looks := false }, kinds := [], alts := [], laidByText := true, laidKinds := [.data, .data, .pinned], laidTests := true, laidLooks := .later }
def ProjectNumbersCardSaid : Prop := Claim7.holds Tryz.pinned (.plain (OpenSpec.ofChange projectNumbersSpec)) projectNumbersCard

/-- THE TIED CARD OF 'farandolelaw25.ProjectAll'. -/
def projectAllCard : Claim7 := { stood := { row := projectAllRow, standIns := [], harness := (true, "84b19daadefb54e1d202333be1a5b855ab0c2b07660887d82cdcf2494aa9096e"), looks := false }, kinds := [], alts := [], laidByText := true, laidKinds := [.data, .data, .pinned], laidTests := true, laidLooks := .later }
def ProjectAllCardSaid : Prop := Claim7.holds Tryz.pinned (.plain (OpenSpec.ofChange projectAllSpec)) projectAllCard

/-- THE SECOND FORM's CARD OF 'farandolelaw25.ProjectMachines'. -/
def projectMachinesUptoCard : Claim7 := { stood := { row := projectMachinesUptoRow, standIns := [], harness := (true, "84b19daadefb54e1d202333be1a5b855ab0c2b07660887d82cdcf2494aa9096e"), looks := false }, kinds := [], alts := [], laidByText := true, laidKinds := [.data, .data, .pinned], laidTests := true, laidLooks := .later }
def ProjectMachinesUptoCardSaid : Prop := Claim7.holds Tryz.pinned (.plain (OpenSpec.upto projectMachinesSpec)) projectMachinesUptoCard

/-- THE SECOND FORM's CARD OF 'farandolelaw25.ProjectMinimal'. -/
def projectMinimalUptoCard : Claim7 := { stood := { row := projectMinimalUptoRow, standIns := [], harness := (true, "84b19daadefb54e1d202333be1a5b855ab0c2b07660887d82cdcf2494aa9096e"), looks := false }, kinds := [], alts := [], laidByText := true, laidKinds := [.data, .data, .pinned], laidTests := true, laidLooks := .later }
def ProjectMinimalUptoCardSaid : Prop := Claim7.holds Tryz.pinned (.plain (OpenSpec.upto projectMinimalSpec)) projectMinimalUptoCard

/-- THE SECOND FORM's CARD OF 'farandolelaw25.ProjectChoices'. -/
def projectChoicesUptoCard : Claim7 := { stood := { row := projectChoicesUptoRow, standIns := [], harness := (true, "84b19daadefb54e1d202333be1a5b855ab0c2b07660887d82cdcf2494aa9096e"), looks := false }, kinds := [], alts := [], laidByText := true, laidKinds := [.data, .data, .pinned], laidTests := true, laidLooks := .later }
def ProjectChoicesUptoCardSaid : Prop := Claim7.holds Tryz.pinned (.plain (OpenSpec.upto projectChoicesSpec)) projectChoicesUptoCard

/-- THE SECOND FORM's CARD OF 'farandolelaw25.ProjectCanonical'. -/
def projectCanonicalUptoCard : Claim7 := { stood := { row := projectCanonicalUptoRow, standIns := [], harness := (true, "84b19daadefb54e1d202333be1a5b855ab0c2b07660887d82cdcf2494aa9096e"), looks := false }, kinds := [], alts := [], laidByText := true, laidKinds := [.data, .data, .pinned], laidTests := true, laidLooks := .later }
def ProjectCanonicalUptoCardSaid : Prop := Claim7.holds Tryz.pinned (.plain (OpenSpec.upto projectCanonicalSpec)) projectCanonicalUptoCard

/-- THE SECOND FORM's CARD OF 'farandolelaw25.ProjectHistories'. -/
def projectHistoriesUptoCard : Claim7 := { stood := { row := projectHistoriesUptoRow, standIns := [], harness := (true, "84b19daadefb54e1d202333be1a5b855ab0c2b07660887d82cdcf2494aa9096e"), looks := false }, kinds := [], alts := [], laidByText := true, laidKinds := [.data, .data, .pinned], laidTests := true, laidLooks := .later }
def ProjectHistoriesUptoCardSaid : Prop := Claim7.holds Tryz.pinned (.plain (OpenSpec.upto projectHistoriesSpec)) projectHistoriesUptoCard

/-- THE SECOND FORM's CARD OF 'farandolelaw25.ProjectNumbers'. -/
def projectNumbersUptoCard : Claim7 := { stood := { row := projectNumbersUptoRow, standIns := [], harness := (true, "84b19daadefb54e1d202333be1a5b855ab0c2b07660887d82cdcf2494aa9096e"), looks := false }, kinds := [], alts := [], laidByText := true, laidKinds := [.data, .data, .pinned], laidTests := true, laidLooks := .later }
def ProjectNumbersUptoCardSaid : Prop := Claim7.holds Tryz.pinned (.plain (OpenSpec.upto projectNumbersSpec)) projectNumbersUptoCard

/-- THE SECOND FORM's CARD OF 'farandolelaw25.ProjectAll'. -/
def projectAllUptoCard : Claim7 := { stood := { row := projectAllUptoRow, standIns := [], harness := (true, "84b19daadefb54e1d202333be1a5b855ab0c2b07660887d82cdcf2494aa9096e"), looks := false }, kinds := [], alts := [], laidByText := true, laidKinds := [.data, .data, .pinned], laidTests := true, laidLooks := .later }
def ProjectAllUptoCardSaid : Prop := Claim7.holds Tryz.pinned (.plain (OpenSpec.upto projectAllSpec)) projectAllUptoCard
end Rows
end Go.Proofs.YtfdhgcladnbdeaaGreatDoor
