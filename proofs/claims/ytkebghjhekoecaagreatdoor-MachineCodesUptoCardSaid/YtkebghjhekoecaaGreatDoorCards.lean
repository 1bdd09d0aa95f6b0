/-
  DERIVED. GIVEN WITH THE SEED: THE CARDS: each row of YtkebghjhekoecaaGreatDoorRows.lean that lists a variable, with what it lists TIED to the program's text (the seventh form; the later family's looks); each row that meets fmt, with fmt's text TOLD by the authors' own Lean function (tested against real Go, not proved from fmt's source: count such statements apart). THE CARD IS WHAT COUNTS. Prove the row's statement (the work); the ties are given (YtkebghjhekoecaaGreatDoorTie.lean); close each card by the builder's one call (the guide's Derived/Test/ToyasCard.lean, 'card_holds'). Laid BY PROGRAM, IN A SANDBOX (cutbox-door.mjs). By AI agents, Wed Nov 11 2026. No macro, syntax, notation, axiom, sorry.
-/
import Derived.Test.YtkebghjhekoecaaGreatDoorRows
import GoSem.ClaimSeven
namespace Go.Proofs.YtkebghjhekoecaaGreatDoor
namespace Rows

/-- THE TIED CARD OF 'farandolelaw26.MachineRuns'. -/
def machineRunsCard : Claim7 := { stood := { row := machineRunsRow, standIns := [], harness := (true, "cd0eb362a1084f8fdf580a06e5ffcabfdcde44593ee0def13a5b1e8cddb6db7e"), looks := false }, kinds := [], alts := [], laidByText := true, laidKinds := [.data, .data, .pinned], laidTests := true, laidLooks := .later }
def MachineRunsCardSaid : Prop := Claim7.holds Tryz.pinned (.plain (OpenSpec.ofChange machineRunsSpec)) machineRunsCard

/-- THE TIED CARD OF 'farandolelaw26.MachineSteps'. -/
def machineStepsCard : Claim7 := { stood := { row := machineStepsRow, standIns := [], harness := (true, "cd0eb362a1084f8fdf580a06e5ffcabfdcde44593ee0def13a5b1e8cddb6db7e"), looks := false }, kinds := [], alts := [], laidByText := true, laidKinds := [.data, .data, .pinned], laidTests := true, laidLooks := .later }
def MachineStepsCardSaid : Prop := Claim7.holds Tryz.pinned (.plain (OpenSpec.ofChange machineStepsSpec)) machineStepsCard

/-- THE TIED CARD OF 'farandolelaw26.MachineMoves'. -/
def machineMovesCard : Claim7 := { stood := { row := machineMovesRow, standIns := [], harness := (true, "cd0eb362a1084f8fdf580a06e5ffcabfdcde44593ee0def13a5b1e8cddb6db7e"), looks := false }, kinds := [], alts := [], laidByText := true, laidKinds := [.data, .data, .pinned], laidTests := true, laidLooks := .later }
def MachineMovesCardSaid : Prop := Claim7.holds Tryz.pinned (.plain (OpenSpec.ofChange machineMovesSpec)) machineMovesCard

/-- THE TIED CARD OF 'farandolelaw26.MachineIncludes'. -/
def machineIncludesCard : Claim7 := { stood := { row := machineIncludesRow, standIns := [], harness := (true, "cd0eb362a1084f8fdf580a06e5ffcabfdcde44593ee0def13a5b1e8cddb6db7e"), looks := false }, kinds := [], alts := [], laidByText := true, laidKinds := [.data, .data, .pinned], laidTests := true, laidLooks := .later }
def MachineIncludesCardSaid : Prop := Claim7.holds Tryz.pinned (.plain (OpenSpec.ofChange machineIncludesSpec)) machineIncludesCard

/-- THE TIED CARD OF 'farandolelaw26.MachineLeast'. -/
def machineLeastCard : Claim7 := { stood := { row := machineLeastRow, standIns := [], harness := (true, "cd0eb362a1084f8fdf580a06e5ffcabfdcde44593ee0def13a5b1e8cddb6db7e"), looks := false }, kinds := [], alts := [], laidByText := true, laidKinds := [.data, .data, .pinned], laidTests := true, laidLooks := .later }
def MachineLeastCardSaid : Prop := Claim7.holds Tryz.pinned (.plain (OpenSpec.ofChange machineLeastSpec)) machineLeastCard

/-- THE TIED CARD OF 'farandolelaw26.MachineProjected'. -/
def machineProjectedCard : Claim7 := { stood := { row := machineProjectedRow, standIns := [], harness := (true, "cd0eb362a1084f8fdf580a06e5ffcabfdcde44593ee0def13a5b1e8cddb6db7e"), looks := false }, kinds := [], alts := [], laidByText := true, laidKinds := [.data, .data, .pinned], laidTests := true, laidLooks := .later }
def MachineProjectedCardSaid : Prop := Claim7.holds Tryz.pinned (.plain (OpenSpec.ofChange machineProjectedSpec)) machineProjectedCard

/-- THE TIED CARD OF 'farandolelaw26.MachineForms'. -/
def machineFormsCard : Claim7 := { stood := { row := machineFormsRow, standIns := [], harness := (true, "cd0eb362a1084f8fdf580a06e5ffcabfdcde44593ee0def13a5b1e8cddb6db7e"), looks := false }, kinds := [], alts := [], laidByText := true, laidKinds := [.data, .data, .pinned], laidTests := true, laidLooks := .later }
def MachineFormsCardSaid : Prop := Claim7.holds Tryz.pinned (.plain (OpenSpec.ofChange machineFormsSpec)) machineFormsCard

/-- THE TIED CARD OF 'farandolelaw26.MachineMinimal'. -/
def machineMinimalCard : Claim7 := { stood := { row := machineMinimalRow, standIns := [], harness := (true, "cd0eb362a1084f8fdf580a06e5ffcabfdcde44593ee0def13a5b1e8cddb6db7e"), looks := false }, kinds := [], alts := [], laidByText := true, laidKinds := [.data, .data, .pinned], laidTests := true, laidLooks := .later }
def MachineMinimalCardSaid : Prop := Claim7.holds Tryz.pinned (.plain (OpenSpec.ofChange machineMinimalSpec)) machineMinimalCard

/-- THE TIED CARD OF 'farandolelaw26.MachineCodes'. -/
def machineCodesCard : Claim7 := { stood := { row := machineCodesRow, standIns := [], harness := (true, "cd0eb362a1084f8fdf580a06e5ffcabfdcde44593ee0def13a5b1e8cddb6db7e"), looks := false }, kinds := [], alts := [], laidByText := true, laidKinds := [.data, .data, .pinned], laidTests := true, laidLooks := .later }
def MachineCodesCardSaid : Prop := Claim7.holds Tryz.pinned (.plain (OpenSpec.ofChange machineCodesSpec)) machineCodesCard

/-- THE SECOND FORM's CARD OF 'farandolelaw26.MachineRuns'. -/
def machineRunsUptoCard : Claim7 := { stood := { row := machineRunsUptoRow, standIns := [], harness := (true, "cd0eb362a1084f8fdf580a06e5ffcabfdcde44593ee0def13a5b1e8cddb6db7e"), looks := false }, kinds := [], alts := [], laidByText := true, laidKinds := [.data, .data, .pinned], laidTests := true, laidLooks := .later }
def MachineRunsUptoCardSaid : Prop := Claim7.holds Tryz.pinned (.plain (OpenSpec.upto machineRunsSpec)) machineRunsUptoCard

/-- THE SECOND FORM's CARD OF 'farandolelaw26.MachineSteps'. -/
def machineStepsUptoCard : Claim7 := { stood := { row := machineStepsUptoRow, standIns := [], harness := (true, "cd0eb362a1084f8fdf580a06e5ffcabfdcde44593ee0def13a5b1e8cddb6db7e"), looks := false }, kinds := [], alts := [], laidByText := true, laidKinds := [.data, .data, .pinned], laidTests := true, laidLooks := .later }
def MachineStepsUptoCardSaid : Prop := Claim7.holds Tryz.pinned (.plain (OpenSpec.upto machineStepsSpec)) machineStepsUptoCard

/-- THE SECOND FORM's CARD OF 'farandolelaw26.MachineMoves'. -/
def machineMovesUptoCard : Claim7 := { stood := { row := machineMovesUptoRow, standIns := [], harness := (true, "cd0eb362a1084f8fdf580a06e5ffcabfdcde44593ee0def13a5b1e8cddb6db7e"), looks := false }, kinds := [], alts := [], laidByText := true, laidKinds := [.data, .data, .pinned], laidTests := true, laidLooks := .later }
def MachineMovesUptoCardSaid : Prop := Claim7.holds Tryz.pinned (.plain (OpenSpec.upto machineMovesSpec)) machineMovesUptoCard

/-- THE SECOND FORM's CARD OF 'farandolelaw26.MachineIncludes'. -/
def machineIncludesUptoCard : Claim7 := { stood := { row := machineIncludesUptoRow, standIns := [], harness := (true, "cd0eb362a1084f8fdf580a06e5ffcabfdcde44593ee0def13a5b1e8cddb6db7e"), looks := false }, kinds := [], alts := [], laidByText := true, laidKinds := [.data, .data, .pinned], laidTests := true, laidLooks := .later }
def MachineIncludesUptoCardSaid : Prop := Claim7.holds Tryz.pinned (.plain (OpenSpec.upto machineIncludesSpec)) machineIncludesUptoCard

/-- THE SECOND FORM's CARD OF 'farandolelaw26.MachineLeast'. -/
def machineLeastUptoCard : Claim7 := { stood := { row := machineLeastUptoRow, standIns := [], harness := (true, "cd0eb362a1084f8fdf580a06e5ffcabfdcde44593ee0def13a5b1e8cddb6db7e"), looks := false }, kinds := [], alts := [], laidByText := true, laidKinds := [.data, .data, .pinned], laidTests := true, laidLooks := .later }
def MachineLeastUptoCardSaid : Prop := Claim7.holds Tryz.pinned (.plain (OpenSpec.upto machineLeastSpec)) machineLeastUptoCard

/-- THE SECOND FORM's CARD OF 'farandolelaw26.MachineProjected'. -/
def machineProjectedUptoCard : Claim7 := { stood := { row := machineProjectedUptoRow, standIns := [], harness := (true, "cd0eb362a1084f8fdf580a06e5ffcabfdcde44593ee0def13a5b1e8cddb6db7e"), looks := false }, kinds := [], alts := [], laidByText := true, laidKinds := [.data, .data, .pinned], laidTests := true, laidLooks := .later }
def MachineProjectedUptoCardSaid : Prop := Claim7.holds Tryz.pinned (.plain (OpenSpec.upto machineProjectedSpec)) machineProjectedUptoCard

/-- THE SECOND FORM's CARD OF 'farandolelaw26.MachineForms'. -/
def machineFormsUptoCard : Claim7 := { stood := { row := machineFormsUptoRow, standIns := [], harness := (true, "cd0eb362a1084f8fdf580a06e5ffcabfdcde44593ee0def13a5b1e8cddb6db7e"), looks := false }, kinds := [], alts := [], laidByText := true, laidKinds := [.data, .data, .pinned], laidTests := true, laidLooks := .later }
def MachineFormsUptoCardSaid : Prop := Claim7.holds Tryz.pinned (.plain (OpenSpec.upto machineFormsSpec)) machineFormsUptoCard

/-- THE SECOND FORM's CARD OF 'farandolelaw26.MachineMinimal'. -/
def machineMinimalUptoCard : Claim7 := { stood := { row := machineMinimalUptoRow, standIns := [], harness := (true, "cd0eb362a1084f8fdf580a06e5ffcabfdcde44593ee0def13a5b1e8cddb6db7e"), looks := false }, kinds := [], alts := [], laidByText := true, laidKinds := [.data, .data, .pinned], laidTests := true, laidLooks := .later }
def MachineMinimalUptoCardSaid : Prop := Claim7.holds Tryz.pinned (.plain (OpenSpec.upto machineMinimalSpec)) machineMinimalUptoCard

/-- THE SECOND FORM's CARD OF 'farandolelaw26.MachineCodes'. -/
def machineCodesUptoCard : Claim7 := { stood := { row := machineCodesUptoRow, standIns := [], harness := (true, "cd0eb362a1084f8fdf580a06e5ffcabfdcde44593ee0def13a5b1e8cddb6db7e"), looks := false }, kinds := [], alts := [], laidByText := true, laidKinds := [.data, .data, .pinned], laidTests := true, laidLooks := .later }
def MachineCodesUptoCardSaid : Prop := Claim7.holds Tryz.pinned (.plain (OpenSpec.upto machineCodesSpec)) machineCodesUptoCard
end Rows
end Go.Proofs.YtkebghjhekoecaaGreatDoor
