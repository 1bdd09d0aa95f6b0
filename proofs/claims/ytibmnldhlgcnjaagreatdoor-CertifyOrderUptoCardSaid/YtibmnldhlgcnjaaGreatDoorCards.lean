/-
  DERIVED. GIVEN WITH THE SEED: THE CARDS: each row of YtibmnldhlgcnjaaGreatDoorRows.lean that lists a variable, with what it lists TIED to the program's text (the seventh form; the later family's looks); each row that meets fmt, with fmt's text TOLD by the authors' own Lean function (tested against real Go, not proved from fmt's source: count such statements apart). THE CARD IS WHAT COUNTS. Prove the row's statement (the work); the ties are given (YtibmnldhlgcnjaaGreatDoorTie.lean); close each card by the builder's one call (the guide's Derived/Test/ToyasCard.lean, 'card_holds'). Laid BY PROGRAM, IN A SANDBOX (cutbox-door.mjs). By AI agents, Wed Nov 11 2026. No macro, syntax, notation, axiom, sorry.
-/
import Derived.Test.YtibmnldhlgcnjaaGreatDoorRows
import GoSem.ClaimSeven
namespace Go.Proofs.YtibmnldhlgcnjaaGreatDoor
namespace Rows

/-- THE TIED CARD OF 'farandolelaw29.CertifyMakes'. -/
def certifyMakesCard : Claim7 := { stood := { row := certifyMakesRow, standIns := [], harness := (true, "70300de53c6a9987bbd0346ea11538851d754f4d39b9a5c34efa3055e33f3551"), looks := false }, kinds := [], alts := [], laidByText := true, laidKinds := [.data, .data, .pinned], laidTests := true, laidLooks := .later }
def CertifyMakesCardSaid : Prop := Claim7.holds Tryz.pinned (.plain (OpenSpec.ofChange certifyMakesSpec)) certifyMakesCard

/-- THE TIED CARD OF 'farandolelaw29.CertifyOrder'. -/
def certifyOrderCard : Claim7 := { stood := { row := certifyOrderRow, standIns := [], harness := (true, "70300de53c6a9987bbd0346ea11538851d754f4d39b9a5c34efa3055e33f3551"), looks := false }, kinds := [], alts := [], laidByText := true, laidKinds := [.data, .data, .pinned], laidTests := true, laidLooks := .later }
def CertifyOrderCardSaid : Prop := Claim7.holds Tryz.pinned (.plain (OpenSpec.ofChange certifyOrderSpec)) certifyOrderCard

/-- THE TIED CARD OF 'farandolelaw29.CertifyMissing'. -/
def certifyMissingCard : Claim7 := { stood := { row := certifyMissingRow, standIns := [], harness := (true, "70300de53c6a9987bbd0346ea11538851d754f4d39b9a5c34efa3055e33f3551"), looks := false }, kinds := [], alts := [], laidByText := true, laidKinds := [.data, .data, .pinned], laidTests := true, laidLooks := .later }
def CertifyMissingCardSaid : Prop := Claim7.holds Tryz.pinned (.plain (OpenSpec.ofChange certifyMissingSpec)) certifyMissingCard

/-- THE TIED CARD OF 'farandolelaw29.CertifyCheck'. -/
def certifyCheckCard : Claim7 := { stood := { row := certifyCheckRow, standIns := [], harness := (true, "70300de53c6a9987bbd0346ea11538851d754f4d39b9a5c34efa3055e33f3551"), looks := false }, kinds := [], alts := [], laidByText := true, laidKinds := [.data, .data, .pinned], laidTests := true, laidLooks := .later }
def CertifyCheckCardSaid : Prop := Claim7.holds Tryz.pinned (.plain (OpenSpec.ofChange certifyCheckSpec)) certifyCheckCard

/-- THE TIED CARD OF 'farandolelaw29.CertifySound'. -/
def certifySoundCard : Claim7 := { stood := { row := certifySoundRow, standIns := [], harness := (true, "70300de53c6a9987bbd0346ea11538851d754f4d39b9a5c34efa3055e33f3551"), looks := false }, kinds := [], alts := [], laidByText := true, laidKinds := [.data, .data, .pinned], laidTests := true, laidLooks := .later }
def CertifySoundCardSaid : Prop := Claim7.holds Tryz.pinned (.plain (OpenSpec.ofChange certifySoundSpec)) certifySoundCard

/-- THE TIED CARD OF 'farandolelaw29.CertifyCodes'. -/
def certifyCodesCard : Claim7 := { stood := { row := certifyCodesRow, standIns := [], harness := (true, "70300de53c6a9987bbd0346ea11538851d754f4d39b9a5c34efa3055e33f3551"), looks := false }, kinds := [], alts := [], laidByText := true, laidKinds := [.data, .data, .pinned], laidTests := true, laidLooks := .later }
def CertifyCodesCardSaid : Prop := Claim7.holds Tryz.pinned (.plain (OpenSpec.ofChange certifyCodesSpec)) certifyCodesCard

/-- THE SECOND FORM's CARD OF 'farandolelaw29.CertifyMakes'. -/
def certifyMakesUptoCard : Claim7 := { stood := { row := certifyMakesUptoRow, standIns := [], harness := (true, "70300de53c6a9987bbd0346ea11538851d754f4d39b9a5c34efa3055e33f3551"), looks := false }, kinds := [], alts := [], laidByText := true, laidKinds := [.data, .data, .pinned], laidTests := true, laidLooks := .later }
def CertifyMakesUptoCardSaid : Prop := Claim7.holds Tryz.pinned (.plain (OpenSpec.upto certifyMakesSpec)) certifyMakesUptoCard

/-- THE SECOND FORM's CARD OF 'farandolelaw29.CertifyOrder'. -/
def certifyOrderUptoCard : Claim7 := { stood := { row := certifyOrderUptoRow, standIns := [], harness := (true, "70300de53c6a9987bbd0346ea11538851d754f4d39b9a5c34efa3055e33f3551"), looks := false }, kinds := [], alts := [], laidByText := true, laidKinds := [.data, .data, .pinned], laidTests := true, laidLooks := .later }
def CertifyOrderUptoCardSaid : Prop := Claim7.holds Tryz.pinned (.plain (OpenSpec.upto certifyOrderSpec)) certifyOrderUptoCard

/-- THE SECOND FORM's CARD OF 'farandolelaw29.CertifyMissing'. -/
def certifyMissingUptoCard : Claim7 := { stood := { row := certifyMissingUptoRow, standIns := [], harness := (true, "70300de53c6a9987bbd0346ea11538851d754f4d39b9a5c34efa3055e33f3551"), looks := false }, kinds := [], alts := [], laidByText := true, laidKinds := [.data, .data, .pinned], laidTests := true, laidLooks := .later }
def CertifyMissingUptoCardSaid : Prop := Claim7.holds Tryz.pinned (.plain (OpenSpec.upto certifyMissingSpec)) certifyMissingUptoCard

/-- THE SECOND FORM's CARD OF 'farandolelaw29.CertifyCheck'. -/
def certifyCheckUptoCard : Claim7 := { stood := { row := certifyCheckUptoRow, standIns := [], harness := (true, "70300de53c6a9987bbd0346ea11538851d754f4d39b9a5c34efa3055e33f3551"), looks := false }, kinds := [], alts := [], laidByText := true, laidKinds := [.data, .data, .pinned], laidTests := true, laidLooks := .later }
def CertifyCheckUptoCardSaid : Prop := Claim7.holds Tryz.pinned (.plain (OpenSpec.upto certifyCheckSpec)) certifyCheckUptoCard

/-- THE SECOND FORM's CARD OF 'farandolelaw29.CertifySound'. -/
def certifySoundUptoCard : Claim7 := { stood := { row := certifySoundUptoRow, standIns := [], harness := (true, "70300de53c6a9987bbd0346ea11538851d754f4d39b9a5c34efa3055e33f3551"), looks := false }, kinds := [], alts := [], laidByText := true, laidKinds := [.data, .data, .pinned], laidTests := true, laidLooks := .later }
def CertifySoundUptoCardSaid : Prop := Claim7.holds Tryz.pinned (.plain (OpenSpec.upto certifySoundSpec)) certifySoundUptoCard

/-- THE SECOND FORM's CARD OF 'farandolelaw29.CertifyCodes'. -/
def certifyCodesUptoCard : Claim7 := { stood := { row := certifyCodesUptoRow, standIns := [], harness := (true, "70300de53c6a9987bbd0346ea11538851d754f4d39b9a5c34efa3055e33f3551"), looks := false }, kinds := [], alts := [], laidByText := true, laidKinds := [.data, .data, .pinned], laidTests := true, laidLooks := .later }
def CertifyCodesUptoCardSaid : Prop := Claim7.holds Tryz.pinned (.plain (OpenSpec.upto certifyCodesSpec)) certifyCodesUptoCard
end Rows
end Go.Proofs.YtibmnldhlgcnjaaGreatDoor
