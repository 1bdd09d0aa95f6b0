/-
  DERIVED. GIVEN WITH THE SEED: THE CARDS: each row of YtknallccojglcaaGreatDoorRows.lean that lists a variable, with what it lists TIED to the program's text (the seventh form; the later family's looks); each row that meets fmt, with fmt's text TOLD by the authors' own Lean function (tested against real Go, not proved from fmt's source: count such statements apart). THE CARD IS WHAT COUNTS. Prove the row's statement (the work); the ties are given (YtknallccojglcaaGreatDoorTie.lean); close each card by the builder's one call (the guide's Derived/Test/ToyasCard.lean, 'card_holds'). Laid BY PROGRAM, IN A SANDBOX (cutbox-door.mjs). By AI agents, Wed Nov 11 2026. No macro, syntax, notation, axiom, sorry.
-/
import Derived.Test.YtknallccojglcaaGreatDoorRows
import GoSem.ClaimSeven
namespace Go.Proofs.YtknallccojglcaaGreatDoor
namespace Rows

/-- THE TIED CARD OF 'farandolelaw28.ExploreResult'. -/
def exploreResultCard : Claim7 := { stood := { row := exploreResultRow, standIns := [], harness := (true, "edeffab25353a6938ce275e89be463911e0955eb6d9cffc49344da532115e887"), looks := false }, kinds := [], alts := [], laidByText := true, laidKinds := [.data, .data, .pinned], laidTests := true, laidLooks := .later }
def ExploreResultCardSaid : Prop := Claim7.holds Tryz.pinned (.plain (OpenSpec.ofChange exploreResultSpec)) exploreResultCard

/-- THE TIED CARD OF 'farandolelaw28.ExploreLimits'. -/
def exploreLimitsCard : Claim7 := { stood := { row := exploreLimitsRow, standIns := [], harness := (true, "edeffab25353a6938ce275e89be463911e0955eb6d9cffc49344da532115e887"), looks := false }, kinds := [], alts := [], laidByText := true, laidKinds := [.data, .data, .pinned], laidTests := true, laidLooks := .later }
def ExploreLimitsCardSaid : Prop := Claim7.holds Tryz.pinned (.plain (OpenSpec.ofChange exploreLimitsSpec)) exploreLimitsCard

/-- THE TIED CARD OF 'farandolelaw28.ExploreRoom'. -/
def exploreRoomCard : Claim7 := { stood := { row := exploreRoomRow, standIns := [], harness := (true, "edeffab25353a6938ce275e89be463911e0955eb6d9cffc49344da532115e887"), looks := false }, kinds := [], alts := [], laidByText := true, laidKinds := [.data, .data, .pinned], laidTests := true, laidLooks := .later }
def ExploreRoomCardSaid : Prop := Claim7.holds Tryz.pinned (.plain (OpenSpec.ofChange exploreRoomSpec)) exploreRoomCard

/-- THE TIED CARD OF 'farandolelaw28.ExploreReplay'. -/
def exploreReplayCard : Claim7 := { stood := { row := exploreReplayRow, standIns := [], harness := (true, "edeffab25353a6938ce275e89be463911e0955eb6d9cffc49344da532115e887"), looks := false }, kinds := [], alts := [], laidByText := true, laidKinds := [.data, .data, .pinned], laidTests := true, laidLooks := .later }
def ExploreReplayCardSaid : Prop := Claim7.holds Tryz.pinned (.plain (OpenSpec.ofChange exploreReplaySpec)) exploreReplayCard

/-- THE TIED CARD OF 'farandolelaw28.ExploreShortest'. -/
def exploreShortestCard : Claim7 := { stood := { row := exploreShortestRow, standIns := [], harness := (true, "edeffab25353a6938ce275e89be463911e0955eb6d9cffc49344da532115e887"), looks := false }, kinds := [], alts := [], laidByText := true, laidKinds := [.data, .data, .pinned], laidTests := true, laidLooks := .later }
def ExploreShortestCardSaid : Prop := Claim7.holds Tryz.pinned (.plain (OpenSpec.ofChange exploreShortestSpec)) exploreShortestCard

/-- THE TIED CARD OF 'farandolelaw28.ExploreTraces'. -/
def exploreTracesCard : Claim7 := { stood := { row := exploreTracesRow, standIns := [], harness := (true, "edeffab25353a6938ce275e89be463911e0955eb6d9cffc49344da532115e887"), looks := false }, kinds := [], alts := [], laidByText := true, laidKinds := [.data, .data, .pinned], laidTests := true, laidLooks := .later }
def ExploreTracesCardSaid : Prop := Claim7.holds Tryz.pinned (.plain (OpenSpec.ofChange exploreTracesSpec)) exploreTracesCard

/-- THE TIED CARD OF 'farandolelaw28.ExploreClosed'. -/
def exploreClosedCard : Claim7 := { stood := { row := exploreClosedRow, standIns := [], harness := (true, "edeffab25353a6938ce275e89be463911e0955eb6d9cffc49344da532115e887"), looks := false }, kinds := [], alts := [], laidByText := true, laidKinds := [.data, .data, .pinned], laidTests := true, laidLooks := .later }
def ExploreClosedCardSaid : Prop := Claim7.holds Tryz.pinned (.plain (OpenSpec.ofChange exploreClosedSpec)) exploreClosedCard

/-- THE TIED CARD OF 'farandolelaw28.ExploreRealizable'. -/
def exploreRealizableCard : Claim7 := { stood := { row := exploreRealizableRow, standIns := [], harness := (true, "edeffab25353a6938ce275e89be463911e0955eb6d9cffc49344da532115e887"), looks := false }, kinds := [], alts := [], laidByText := true, laidKinds := [.data, .data, .pinned], laidTests := true, laidLooks := .later }
def ExploreRealizableCardSaid : Prop := Claim7.holds Tryz.pinned (.plain (OpenSpec.ofChange exploreRealizableSpec)) exploreRealizableCard

/-- THE SECOND FORM's CARD OF 'farandolelaw28.ExploreResult'. -/
def exploreResultUptoCard : Claim7 := { stood := { row := exploreResultUptoRow, standIns := [], harness := (true, "edeffab25353a6938ce275e89be463911e0955eb6d9cffc49344da532115e887"), looks := false }, kinds := [], alts := [], laidByText := true, laidKinds := [.data, .data, .pinned], laidTests := true, laidLooks := .later }
def ExploreResultUptoCardSaid : Prop := Claim7.holds Tryz.pinned (.plain (OpenSpec.upto exploreResultSpec)) exploreResultUptoCard

/-- THE SECOND FORM's CARD OF 'farandolelaw28.ExploreLimits'. -/
def exploreLimitsUptoCard : Claim7 := { stood := { row := exploreLimitsUptoRow, standIns := [], harness := (true, "edeffab25353a6938ce275e89be463911e0955eb6d9cffc49344da532115e887"), looks := false }, kinds := [], alts := [], laidByText := true, laidKinds := [.data, .data, .pinned], laidTests := true, laidLooks := .later }
def ExploreLimitsUptoCardSaid : Prop := Claim7.holds Tryz.pinned (.plain (OpenSpec.upto exploreLimitsSpec)) exploreLimitsUptoCard

/-- THE SECOND FORM's CARD OF 'farandolelaw28.ExploreRoom'. -/
def exploreRoomUptoCard : Claim7 := { stood := { row := exploreRoomUptoRow, standIns := [], harness := (true, "edeffab25353a6938ce275e89be463911e0955eb6d9cffc49344da532115e887"), looks := false }, kinds := [], alts := [], laidByText := true, laidKinds := [.data, .data, .pinned], laidTests := true, laidLooks := .later }
def ExploreRoomUptoCardSaid : Prop := Claim7.holds Tryz.pinned (.plain (OpenSpec.upto exploreRoomSpec)) exploreRoomUptoCard

/-- THE SECOND FORM's CARD OF 'farandolelaw28.ExploreReplay'. -/
def exploreReplayUptoCard : Claim7 := { stood := { row := exploreReplayUptoRow, standIns := [], harness := (true, "edeffab25353a6938ce275e89be463911e0955eb6d9cffc49344da532115e887"), looks := false }, kinds := [], alts := [], laidByText := true, laidKinds := [.data, .data, .pinned], laidTests := true, laidLooks := .later }
def ExploreReplayUptoCardSaid : Prop := Claim7.holds Tryz.pinned (.plain (OpenSpec.upto exploreReplaySpec)) exploreReplayUptoCard

/-- THE SECOND FORM's CARD OF 'farandolelaw28.ExploreShortest'. -/
def exploreShortestUptoCard : Claim7 := { stood := { row := exploreShortestUptoRow, standIns := [], harness := (true, "edeffab25353a6938ce275e89be463911e0955eb6d9cffc49344da532115e887"), looks := false }, kinds := [], alts := [], laidByText := true, laidKinds := [.data, .data, .pinned], laidTests := true, laidLooks := .later }
def ExploreShortestUptoCardSaid : Prop := Claim7.holds Tryz.pinned (.plain (OpenSpec.upto exploreShortestSpec)) exploreShortestUptoCard

/-- THE SECOND FORM's CARD OF 'farandolelaw28.ExploreTraces'. -/
def exploreTracesUptoCard : Claim7 := { stood := { row := exploreTracesUptoRow, standIns := [], harness := (true, "edeffab25353a6938ce275e89be463911e0955eb6d9cffc49344da532115e887"), looks := false }, kinds := [], alts := [], laidByText := true, laidKinds := [.data, .data, .pinned], laidTests := true, laidLooks := .later }
def ExploreTracesUptoCardSaid : Prop := Claim7.holds Tryz.pinned (.plain (OpenSpec.upto exploreTracesSpec)) exploreTracesUptoCard

/-- THE SECOND FORM's CARD OF 'farandolelaw28.ExploreClosed'. -/
def exploreClosedUptoCard : Claim7 := { stood := { row := exploreClosedUptoRow, standIns := [], harness := (true, "edeffab25353a6938ce275e89be463911e0955eb6d9cffc49344da532115e887"), looks := false }, kinds := [], alts := [], laidByText := true, laidKinds := [.data, .data, .pinned], laidTests := true, laidLooks := .later }
def ExploreClosedUptoCardSaid : Prop := Claim7.holds Tryz.pinned (.plain (OpenSpec.upto exploreClosedSpec)) exploreClosedUptoCard

/-- THE SECOND FORM's CARD OF 'farandolelaw28.ExploreRealizable'. -/
def exploreRealizableUptoCard : Claim7 := { stood := { row := exploreRealizableUptoRow, standIns := [], harness := (true, "edeffab25353a6938ce275e89be463911e0955eb6d9cffc49344da532115e887"), looks := false }, kinds := [], alts := [], laidByText := true, laidKinds := [.data, .data, .pinned], laidTests := true, laidLooks := .later }
def ExploreRealizableUptoCardSaid : Prop := Claim7.holds Tryz.pinned (.plain (OpenSpec.upto exploreRealizableSpec)) exploreRealizableUptoCard
end Rows
end Go.Proofs.YtknallccojglcaaGreatDoor
