/-
  DERIVED. GIVEN WITH THE SEED: THE CARDS: each row of YtajglkbckhgboaaGreatDoorRows.lean that lists a variable, with what it lists TIED to the program's text (the seventh form; the later family's looks); each row that meets fmt, with fmt's text TOLD by the authors' own Lean function (tested against real Go, not proved from fmt's source: count such statements apart). THE CARD IS WHAT COUNTS. Prove the row's statement (the work); the ties are given (YtajglkbckhgboaaGreatDoorTie.lean); close each card by the builder's one call (the guide's Derived/Test/ToyasCard.lean, 'card_holds'). Laid BY PROGRAM, IN A SANDBOX (cutbox-door.mjs). By AI agents, Wed Nov 11 2026. No macro, syntax, notation, axiom, sorry.
-/
import Derived.Test.YtajglkbckhgboaaGreatDoorRows
import GoSem.ClaimSeven
namespace Go.Proofs.YtajglkbckhgboaaGreatDoor
namespace Rows

/-- THE TIED CARD OF 'farandolelaw23.RealizeCheck'. -/
def realizeCheckCard : Claim7 := { stood := { row := realizeCheckRow, standIns := [], harness := (true, "fcacc623dcddccd975d7148d4c7dfe8ace0e86fc78b16d8aec1562ebffa1bc88"), looks := false }, kinds := [], alts := [], laidByText := true, laidKinds := [.data, .pinned], laidTests := true, laidLooks := .later }
def RealizeCheckCardSaid : Prop := Claim7.holds Tryz.pinned (.plain (OpenSpec.ofChange realizeCheckSpec)) realizeCheckCard

/-- THE TIED CARD OF 'farandolelaw23.RealizeTwo'. -/
def realizeTwoCard : Claim7 := { stood := { row := realizeTwoRow, standIns := [], harness := (true, "fcacc623dcddccd975d7148d4c7dfe8ace0e86fc78b16d8aec1562ebffa1bc88"), looks := false }, kinds := [], alts := [], laidByText := true, laidKinds := [.data, .pinned], laidTests := true, laidLooks := .later }
def RealizeTwoCardSaid : Prop := Claim7.holds Tryz.pinned (.plain (OpenSpec.ofChange realizeTwoSpec)) realizeTwoCard

/-- THE TIED CARD OF 'farandolelaw23.RealizeAll'. -/
def realizeAllCard : Claim7 := { stood := { row := realizeAllRow, standIns := [], harness := (true, "fcacc623dcddccd975d7148d4c7dfe8ace0e86fc78b16d8aec1562ebffa1bc88"), looks := false }, kinds := [], alts := [], laidByText := true, laidKinds := [.data, .pinned], laidTests := true, laidLooks := .later }
def RealizeAllCardSaid : Prop := Claim7.holds Tryz.pinned (.plain (OpenSpec.ofChange realizeAllSpec)) realizeAllCard

/-- THE TIED CARD OF 'farandolelaw23.RealizePairs'. -/
def realizePairsCard : Claim7 := { stood := { row := realizePairsRow, standIns := [], harness := (true, "fcacc623dcddccd975d7148d4c7dfe8ace0e86fc78b16d8aec1562ebffa1bc88"), looks := false }, kinds := [], alts := [], laidByText := true, laidKinds := [.data, .pinned], laidTests := true, laidLooks := .later }
def RealizePairsCardSaid : Prop := Claim7.holds Tryz.pinned (.plain (OpenSpec.ofChange realizePairsSpec)) realizePairsCard

/-- THE TIED CARD OF 'farandolelaw23.RealizeRoles'. -/
def realizeRolesCard : Claim7 := { stood := { row := realizeRolesRow, standIns := [], harness := (true, "fcacc623dcddccd975d7148d4c7dfe8ace0e86fc78b16d8aec1562ebffa1bc88"), looks := false }, kinds := [], alts := [], laidByText := true, laidKinds := [.data, .pinned], laidTests := true, laidLooks := .later }
def RealizeRolesCardSaid : Prop := Claim7.holds Tryz.pinned (.plain (OpenSpec.ofChange realizeRolesSpec)) realizeRolesCard

/-- THE TIED CARD OF 'farandolelaw23.RealizeShort'. -/
def realizeShortCard : Claim7 := { stood := { row := realizeShortRow, standIns := [], harness := (true, "fcacc623dcddccd975d7148d4c7dfe8ace0e86fc78b16d8aec1562ebffa1bc88"), looks := false }, kinds := [], alts := [], laidByText := true, laidKinds := [.data, .data, .pinned], laidTests := true, laidLooks := .later }
def RealizeShortCardSaid : Prop := Claim7.holds Tryz.pinned (.plain (OpenSpec.ofChange realizeShortSpec)) realizeShortCard

/-- THE TIED CARD OF 'farandolelaw23.RealizeSends'. -/
def realizeSendsCard : Claim7 := { stood := { row := realizeSendsRow, standIns := [], harness := (true, "fcacc623dcddccd975d7148d4c7dfe8ace0e86fc78b16d8aec1562ebffa1bc88"), looks := false }, kinds := [], alts := [], laidByText := true, laidKinds := [.data, .data, .pinned], laidTests := true, laidLooks := .later }
def RealizeSendsCardSaid : Prop := Claim7.holds Tryz.pinned (.plain (OpenSpec.ofChange realizeSendsSpec)) realizeSendsCard

/-- THE TIED CARD OF 'farandolelaw23.RealizeNumbers'. -/
def realizeNumbersCard : Claim7 := { stood := { row := realizeNumbersRow, standIns := [], harness := (true, "fcacc623dcddccd975d7148d4c7dfe8ace0e86fc78b16d8aec1562ebffa1bc88"), looks := false }, kinds := [], alts := [], laidByText := true, laidKinds := [.data, .pinned], laidTests := true, laidLooks := .later }
def RealizeNumbersCardSaid : Prop := Claim7.holds Tryz.pinned (.plain (OpenSpec.ofChange realizeNumbersSpec)) realizeNumbersCard

/-- THE TIED CARD OF 'farandolelaw23.RealizeViews'. -/
def realizeViewsCard : Claim7 := { stood := { row := realizeViewsRow, standIns := [], harness := (true, "fcacc623dcddccd975d7148d4c7dfe8ace0e86fc78b16d8aec1562ebffa1bc88"), looks := false }, kinds := [], alts := [], laidByText := true, laidKinds := [.data, .data, .pinned], laidTests := true, laidLooks := .later }
def RealizeViewsCardSaid : Prop := Claim7.holds Tryz.pinned (.plain (OpenSpec.ofChange realizeViewsSpec)) realizeViewsCard

/-- THE SECOND FORM's CARD OF 'farandolelaw23.RealizeCheck'. -/
def realizeCheckUptoCard : Claim7 := { stood := { row := realizeCheckUptoRow, standIns := [], harness := (true, "fcacc623dcddccd975d7148d4c7dfe8ace0e86fc78b16d8aec1562ebffa1bc88"), looks := false }, kinds := [], alts := [], laidByText := true, laidKinds := [.data, .pinned], laidTests := true, laidLooks := .later }
def RealizeCheckUptoCardSaid : Prop := Claim7.holds Tryz.pinned (.plain (OpenSpec.upto realizeCheckSpec)) realizeCheckUptoCard

/-- THE SECOND FORM's CARD OF 'farandolelaw23.RealizeTwo'. -/
def realizeTwoUptoCard : Claim7 := { stood := { row := realizeTwoUptoRow, standIns := [], harness := (true, "fcacc623dcddccd975d7148d4c7dfe8ace0e86fc78b16d8aec1562ebffa1bc88"), looks := false }, kinds := [], alts := [], laidByText := true, laidKinds := [.data, .pinned], laidTests := true, laidLooks := .later }
def RealizeTwoUptoCardSaid : Prop := Claim7.holds Tryz.pinned (.plain (OpenSpec.upto realizeTwoSpec)) realizeTwoUptoCard

/-- THE SECOND FORM's CARD OF 'farandolelaw23.RealizeAll'. -/
def realizeAllUptoCard : Claim7 := { stood := { row := realizeAllUptoRow, standIns := [], harness := (true, "fcacc623dcddccd975d7148d4c7dfe8ace0e86fc78b16d8aec1562ebffa1bc88"), looks := false }, kinds := [], alts := [], laidByText := true, laidKinds := [.data, .pinned], laidTests := true, laidLooks := .later }
def RealizeAllUptoCardSaid : Prop := Claim7.holds Tryz.pinned (.plain (OpenSpec.upto realizeAllSpec)) realizeAllUptoCard

/-- THE SECOND FORM's CARD OF 'farandolelaw23.RealizePairs'. -/
def realizePairsUptoCard : Claim7 := { stood := { row := realizePairsUptoRow, standIns := [], harness := (true, "fcacc623dcddccd975d7148d4c7dfe8ace0e86fc78b16d8aec1562ebffa1bc88"), looks := false }, kinds := [], alts := [], laidByText := true, laidKinds := [.data, .pinned], laidTests := true, laidLooks := .later }
def RealizePairsUptoCardSaid : Prop := Claim7.holds Tryz.pinned (.plain (OpenSpec.upto realizePairsSpec)) realizePairsUptoCard

/-- THE SECOND FORM's CARD OF 'farandolelaw23.RealizeRoles'. -/
def realizeRolesUptoCard : Claim7 := { stood := { row := realizeRolesUptoRow, standIns := [], harness := (true, "fcacc623dcddccd975d7148d4c7dfe8ace0e86fc78b16d8aec1562ebffa1bc88"), looks := false }, kinds := [], alts := [], laidByText := true, laidKinds := [.data, .pinned], laidTests := true, laidLooks := .later }
def RealizeRolesUptoCardSaid : Prop := Claim7.holds Tryz.pinned (.plain (OpenSpec.upto realizeRolesSpec)) realizeRolesUptoCard

/-- THE SECOND FORM's CARD OF 'farandolelaw23.RealizeShort'. -/
def realizeShortUptoCard : Claim7 := { stood := { row := realizeShortUptoRow, standIns := [], harness := (true, "fcacc623dcddccd975d7148d4c7dfe8ace0e86fc78b16d8aec1562ebffa1bc88"), looks := false }, kinds := [], alts := [], laidByText := true, laidKinds := [.data, .data, .pinned], laidTests := true, laidLooks := .later }
def RealizeShortUptoCardSaid : Prop := Claim7.holds Tryz.pinned (.plain (OpenSpec.upto realizeShortSpec)) realizeShortUptoCard

/-- THE SECOND FORM's CARD OF 'farandolelaw23.RealizeSends'. -/
def realizeSendsUptoCard : Claim7 := { stood := { row := realizeSendsUptoRow, standIns := [], harness := (true, "fcacc623dcddccd975d7148d4c7dfe8ace0e86fc78b16d8aec1562ebffa1bc88"), looks := false }, kinds := [], alts := [], laidByText := true, laidKinds := [.data, .data, .pinned], laidTests := true, laidLooks := .later }
def RealizeSendsUptoCardSaid : Prop := Claim7.holds Tryz.pinned (.plain (OpenSpec.upto realizeSendsSpec)) realizeSendsUptoCard

/-- THE SECOND FORM's CARD OF 'farandolelaw23.RealizeNumbers'. -/
def realizeNumbersUptoCard : Claim7 := { stood := { row := realizeNumbersUptoRow, standIns := [], harness := (true, "fcacc623dcddccd975d7148d4c7dfe8ace0e86fc78b16d8aec1562ebffa1bc88"), looks := false }, kinds := [], alts := [], laidByText := true, laidKinds := [.data, .pinned], laidTests := true, laidLooks := .later }
def RealizeNumbersUptoCardSaid : Prop := Claim7.holds Tryz.pinned (.plain (OpenSpec.upto realizeNumbersSpec)) realizeNumbersUptoCard

/-- THE SECOND FORM's CARD OF 'farandolelaw23.RealizeViews'. -/
def realizeViewsUptoCard : Claim7 := { stood := { row := realizeViewsUptoRow, standIns := [], harness := (true, "fcacc623dcddccd975d7148d4c7dfe8ace0e86fc78b16d8aec1562ebffa1bc88"), looks := false }, kinds := [], alts := [], laidByText := true, laidKinds := [.data, .data, .pinned], laidTests := true, laidLooks := .later }
def RealizeViewsUptoCardSaid : Prop := Claim7.holds Tryz.pinned (.plain (OpenSpec.upto realizeViewsSpec)) realizeViewsUptoCard
end Rows
end Go.Proofs.YtajglkbckhgboaaGreatDoor
