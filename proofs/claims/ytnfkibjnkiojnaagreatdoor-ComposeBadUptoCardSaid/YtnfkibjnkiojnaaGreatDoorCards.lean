/-
  DERIVED. GIVEN WITH THE SEED: THE CARDS: each row of YtnfkibjnkiojnaaGreatDoorRows.lean that lists a variable, with what it lists TIED to the program's text (the seventh form; the later family's looks); each row that meets fmt, with fmt's text TOLD by the authors' own Lean function (tested against real Go, not proved from fmt's source: count such statements apart). THE CARD IS WHAT COUNTS. Prove the row's statement (the work); the ties are given (YtnfkibjnkiojnaaGreatDoorTie.lean); close each card by the builder's one call (the guide's Derived/Test/ToyasCard.lean, 'card_holds'). Laid BY PROGRAM, IN A SANDBOX (cutbox-door.mjs). By AI agents, Wed Nov 11 2026. No macro, syntax, notation, axiom, sorry.
-/
import Derived.Test.YtnfkibjnkiojnaaGreatDoorRows
import GoSem.ClaimSeven
namespace Go.Proofs.YtnfkibjnkiojnaaGreatDoor
namespace Rows

/-- THE TIED CARD OF 'farandolelaw27.ComposeSteps'. -/
def composeStepsCard : Claim7 := { stood := { row := composeStepsRow, standIns := [], harness := (true, "1aa1e8344c594fac20f3bbbb7102fed9f94e225ac4455c189b5341498f9d3cec"), looks := false }, kinds := [], alts := [], laidByText := true, laidKinds := [.data, .data, .pinned], laidTests := true, laidLooks := .later }
def ComposeStepsCardSaid : Prop := Claim7.holds Tryz.pinned (.plain (OpenSpec.ofChange composeStepsSpec)) composeStepsCard

/-- THE TIED CARD OF 'farandolelaw27.ComposePossible'. -/
def composePossibleCard : Claim7 := { stood := { row := composePossibleRow, standIns := [], harness := (true, "1aa1e8344c594fac20f3bbbb7102fed9f94e225ac4455c189b5341498f9d3cec"), looks := false }, kinds := [], alts := [], laidByText := true, laidKinds := [.data, .data, .pinned], laidTests := true, laidLooks := .later }
def ComposePossibleCardSaid : Prop := Claim7.holds Tryz.pinned (.plain (OpenSpec.ofChange composePossibleSpec)) composePossibleCard

/-- THE TIED CARD OF 'farandolelaw27.ComposeDo'. -/
def composeDoCard : Claim7 := { stood := { row := composeDoRow, standIns := [], harness := (true, "1aa1e8344c594fac20f3bbbb7102fed9f94e225ac4455c189b5341498f9d3cec"), looks := false }, kinds := [], alts := [], laidByText := true, laidKinds := [.data, .data, .pinned], laidTests := true, laidLooks := .later }
def ComposeDoCardSaid : Prop := Claim7.holds Tryz.pinned (.plain (OpenSpec.ofChange composeDoSpec)) composeDoCard

/-- THE TIED CARD OF 'farandolelaw27.ComposeCommutes'. -/
def composeCommutesCard : Claim7 := { stood := { row := composeCommutesRow, standIns := [], harness := (true, "1aa1e8344c594fac20f3bbbb7102fed9f94e225ac4455c189b5341498f9d3cec"), looks := false }, kinds := [], alts := [], laidByText := true, laidKinds := [.data, .data, .pinned], laidTests := true, laidLooks := .later }
def ComposeCommutesCardSaid : Prop := Claim7.holds Tryz.pinned (.plain (OpenSpec.ofChange composeCommutesSpec)) composeCommutesCard

/-- THE TIED CARD OF 'farandolelaw27.ComposeOrder'. -/
def composeOrderCard : Claim7 := { stood := { row := composeOrderRow, standIns := [], harness := (true, "1aa1e8344c594fac20f3bbbb7102fed9f94e225ac4455c189b5341498f9d3cec"), looks := false }, kinds := [], alts := [], laidByText := true, laidKinds := [.data, .data, .pinned], laidTests := true, laidLooks := .later }
def ComposeOrderCardSaid : Prop := Claim7.holds Tryz.pinned (.plain (OpenSpec.ofChange composeOrderSpec)) composeOrderCard

/-- THE TIED CARD OF 'farandolelaw27.ComposeCodes'. -/
def composeCodesCard : Claim7 := { stood := { row := composeCodesRow, standIns := [], harness := (true, "1aa1e8344c594fac20f3bbbb7102fed9f94e225ac4455c189b5341498f9d3cec"), looks := false }, kinds := [], alts := [], laidByText := true, laidKinds := [.data, .data, .pinned], laidTests := true, laidLooks := .later }
def ComposeCodesCardSaid : Prop := Claim7.holds Tryz.pinned (.plain (OpenSpec.ofChange composeCodesSpec)) composeCodesCard

/-- THE TIED CARD OF 'farandolelaw27.ComposeBad'. -/
def composeBadCard : Claim7 := { stood := { row := composeBadRow, standIns := [], harness := (true, "1aa1e8344c594fac20f3bbbb7102fed9f94e225ac4455c189b5341498f9d3cec"), looks := false }, kinds := [], alts := [], laidByText := true, laidKinds := [.data, .data, .pinned], laidTests := true, laidLooks := .later }
def ComposeBadCardSaid : Prop := Claim7.holds Tryz.pinned (.plain (OpenSpec.ofChange composeBadSpec)) composeBadCard

/-- THE TIED CARD OF 'farandolelaw27.ComposeProgress'. -/
def composeProgressCard : Claim7 := { stood := { row := composeProgressRow, standIns := [], harness := (true, "1aa1e8344c594fac20f3bbbb7102fed9f94e225ac4455c189b5341498f9d3cec"), looks := false }, kinds := [], alts := [], laidByText := true, laidKinds := [.data, .data, .pinned], laidTests := true, laidLooks := .later }
def ComposeProgressCardSaid : Prop := Claim7.holds Tryz.pinned (.plain (OpenSpec.ofChange composeProgressSpec)) composeProgressCard

/-- THE TIED CARD OF 'farandolelaw27.ComposeFidelity'. -/
def composeFidelityCard : Claim7 := { stood := { row := composeFidelityRow, standIns := [], harness := (true, "1aa1e8344c594fac20f3bbbb7102fed9f94e225ac4455c189b5341498f9d3cec"), looks := false }, kinds := [], alts := [], laidByText := true, laidKinds := [.data, .data, .pinned], laidTests := true, laidLooks := .later }
def ComposeFidelityCardSaid : Prop := Claim7.holds Tryz.pinned (.plain (OpenSpec.ofChange composeFidelitySpec)) composeFidelityCard

/-- THE SECOND FORM's CARD OF 'farandolelaw27.ComposeSteps'. -/
def composeStepsUptoCard : Claim7 := { stood := { row := composeStepsUptoRow, standIns := [], harness := (true, "1aa1e8344c594fac20f3bbbb7102fed9f94e225ac4455c189b5341498f9d3cec"), looks := false }, kinds := [], alts := [], laidByText := true, laidKinds := [.data, .data, .pinned], laidTests := true, laidLooks := .later }
def ComposeStepsUptoCardSaid : Prop := Claim7.holds Tryz.pinned (.plain (OpenSpec.upto composeStepsSpec)) composeStepsUptoCard

/-- THE SECOND FORM's CARD OF 'farandolelaw27.ComposePossible'. -/
def composePossibleUptoCard : Claim7 := { stood := { row := composePossibleUptoRow, standIns := [], harness := (true, "1aa1e8344c594fac20f3bbbb7102fed9f94e225ac4455c189b5341498f9d3cec"), looks := false }, kinds := [], alts := [], laidByText := true, laidKinds := [.data, .data, .pinned], laidTests := true, laidLooks := .later }
def ComposePossibleUptoCardSaid : Prop := Claim7.holds Tryz.pinned (.plain (OpenSpec.upto composePossibleSpec)) composePossibleUptoCard

/-- THE SECOND FORM's CARD OF 'farandolelaw27.ComposeDo'. -/
def composeDoUptoCard : Claim7 := { stood := { row := composeDoUptoRow, standIns := [], harness := (true, "1aa1e8344c594fac20f3bbbb7102fed9f94e225ac4455c189b5341498f9d3cec"), looks := false }, kinds := [], alts := [], laidByText := true, laidKinds := [.data, .data, .pinned], laidTests := true, laidLooks := .later }
def ComposeDoUptoCardSaid : Prop := Claim7.holds Tryz.pinned (.plain (OpenSpec.upto composeDoSpec)) composeDoUptoCard

/-- THE SECOND FORM's CARD OF 'farandolelaw27.ComposeCommutes'. -/
def composeCommutesUptoCard : Claim7 := { stood := { row := composeCommutesUptoRow, standIns := [], harness := (true, "1aa1e8344c594fac20f3bbbb7102fed9f94e225ac4455c189b5341498f9d3cec"), looks := false }, kinds := [], alts := [], laidByText := true, laidKinds := [.data, .data, .pinned], laidTests := true, laidLooks := .later }
def ComposeCommutesUptoCardSaid : Prop := Claim7.holds Tryz.pinned (.plain (OpenSpec.upto composeCommutesSpec)) composeCommutesUptoCard

/-- THE SECOND FORM's CARD OF 'farandolelaw27.ComposeOrder'. -/
def composeOrderUptoCard : Claim7 := { stood := { row := composeOrderUptoRow, standIns := [], harness := (true, "1aa1e8344c594fac20f3bbbb7102fed9f94e225ac4455c189b5341498f9d3cec"), looks := false }, kinds := [], alts := [], laidByText := true, laidKinds := [.data, .data, .pinned], laidTests := true, laidLooks := .later }
def ComposeOrderUptoCardSaid : Prop := Claim7.holds Tryz.pinned (.plain (OpenSpec.upto composeOrderSpec)) composeOrderUptoCard

/-- THE SECOND FORM's CARD OF 'farandolelaw27.ComposeCodes'. -/
def composeCodesUptoCard : Claim7 := { stood := { row := composeCodesUptoRow, standIns := [], harness := (true, "1aa1e8344c594fac20f3bbbb7102fed9f94e225ac4455c189b5341498f9d3cec"), looks := false }, kinds := [], alts := [], laidByText := true, laidKinds := [.data, .data, .pinned], laidTests := true, laidLooks := .later }
def ComposeCodesUptoCardSaid : Prop := Claim7.holds Tryz.pinned (.plain (OpenSpec.upto composeCodesSpec)) composeCodesUptoCard

/-- THE SECOND FORM's CARD OF 'farandolelaw27.ComposeBad'. -/
def composeBadUptoCard : Claim7 := { stood := { row := composeBadUptoRow, standIns := [], harness := (true, "1aa1e8344c594fac20f3bbbb7102fed9f94e225ac4455c189b5341498f9d3cec"), looks := false }, kinds := [], alts := [], laidByText := true, laidKinds := [.data, .data, .pinned], laidTests := true, laidLooks := .later }
def ComposeBadUptoCardSaid : Prop := Claim7.holds Tryz.pinned (.plain (OpenSpec.upto composeBadSpec)) composeBadUptoCard

/-- THE SECOND FORM's CARD OF 'farandolelaw27.ComposeProgress'. -/
def composeProgressUptoCard : Claim7 := { stood := { row := composeProgressUptoRow, standIns := [], harness := (true, "1aa1e8344c594fac20f3bbbb7102fed9f94e225ac4455c189b5341498f9d3cec"), looks := false }, kinds := [], alts := [], laidByText := true, laidKinds := [.data, .data, .pinned], laidTests := true, laidLooks := .later }
def ComposeProgressUptoCardSaid : Prop := Claim7.holds Tryz.pinned (.plain (OpenSpec.upto composeProgressSpec)) composeProgressUptoCard

/-- THE SECOND FORM's CARD OF 'farandolelaw27.ComposeFidelity'. -/
def composeFidelityUptoCard : Claim7 := { stood := { row := composeFidelityUptoRow, standIns := [], harness := (true, "1aa1e8344c594fac20f3bbbb7102fed9f94e225ac4455c189b5341498f9d3cec"), looks := false }, kinds := [], alts := [], laidByText := true, laidKinds := [.data, .data, .pinned], laidTests := true, laidLooks := .later }
def ComposeFidelityUptoCardSaid : Prop := Claim7.holds Tryz.pinned (.plain (OpenSpec.upto composeFidelitySpec)) composeFidelityUptoCard
end Rows
end Go.Proofs.YtnfkibjnkiojnaaGreatDoor
