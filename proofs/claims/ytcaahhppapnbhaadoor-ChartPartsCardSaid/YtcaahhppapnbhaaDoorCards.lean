/-
  DERIVED. GIVEN WITH THE SEED: THE CARDS: each row of YtcaahhppapnbhaaDoorRows.lean that lists a variable, with what it lists TIED to the program's text (the seventh form; the later family's looks); each row that meets fmt, with fmt's text TOLD by the authors' own Lean function (tested against real Go, not proved from fmt's source: count such statements apart). THE CARD IS WHAT COUNTS. Prove the row's statement (the work); the ties are given (YtcaahhppapnbhaaDoorTie.lean); close each card by the builder's one call (the guide's Derived/Test/ToyasCard.lean, 'card_holds'). Laid BY PROGRAM, IN A SANDBOX (cutbox-door.mjs). By AI agents, Wed Nov 11 2026. No macro, syntax, notation, axiom, sorry.
-/
import Derived.Test.YtcaahhppapnbhaaDoorRows
import GoSem.ClaimSeven
namespace Go.Proofs.YtcaahhppapnbhaaDoor
namespace Rows

/-- THE TIED CARD OF 'farandolelaw42.ChartDraw'. -/
def chartDrawCard : Claim7 := { stood := { row := chartDrawRow, standIns := [], harness := (true, "a739794946d7b5a6962d9dbc4c35affe46b074dfd0d7686d04893730157b1c59"), looks := false }, kinds := [], alts := [], laidByText := true, laidKinds := [.data, .pinned], laidTests := true, laidLooks := .later }
def ChartDrawCardSaid : Prop := Claim7.holds Tryd.pinned (.plain (OpenSpec.ofChange chartDrawSpec)) chartDrawCard

/-- THE TIED CARD OF 'farandolelaw42.ChartRead'. -/
def chartReadCard : Claim7 := { stood := { row := chartReadRow, standIns := [], harness := (true, "a739794946d7b5a6962d9dbc4c35affe46b074dfd0d7686d04893730157b1c59"), looks := false }, kinds := [], alts := [], laidByText := true, laidKinds := [.data, .pinned], laidTests := true, laidLooks := .later }
def ChartReadCardSaid : Prop := Claim7.holds Tryd.pinned (.plain (OpenSpec.ofChange chartReadSpec)) chartReadCard

/-- THE TIED CARD OF 'farandolelaw42.ChartInverse'. -/
def chartInverseCard : Claim7 := { stood := { row := chartInverseRow, standIns := [], harness := (true, "a739794946d7b5a6962d9dbc4c35affe46b074dfd0d7686d04893730157b1c59"), looks := false }, kinds := [], alts := [], laidByText := true, laidKinds := [.data, .pinned], laidTests := true, laidLooks := .later }
def ChartInverseCardSaid : Prop := Claim7.holds Tryd.pinned (.plain (OpenSpec.ofChange chartInverseSpec)) chartInverseCard

/-- THE TIED CARD OF 'farandolelaw42.ChartParts'. -/
def chartPartsCard : Claim7 := { stood := { row := chartPartsRow, standIns := [], harness := (true, "a739794946d7b5a6962d9dbc4c35affe46b074dfd0d7686d04893730157b1c59"), looks := false }, kinds := [], alts := [], laidByText := true, laidKinds := [.data, .pinned], laidTests := true, laidLooks := .later }
def ChartPartsCardSaid : Prop := Claim7.holds Tryd.pinned (.plain (OpenSpec.ofChange chartPartsSpec)) chartPartsCard

/-- THE TIED CARD OF 'farandolelaw42.ChartExchange'. -/
def chartExchangeCard : Claim7 := { stood := { row := chartExchangeRow, standIns := [], harness := (true, "a739794946d7b5a6962d9dbc4c35affe46b074dfd0d7686d04893730157b1c59"), looks := false }, kinds := [], alts := [], laidByText := true, laidKinds := [.data, .pinned], laidTests := true, laidLooks := .later }
def ChartExchangeCardSaid : Prop := Claim7.holds Tryd.pinned (.plain (OpenSpec.ofChange chartExchangeSpec)) chartExchangeCard

/-- THE TIED CARD OF 'farandolelaw42.ChartMarks'. -/
def chartMarksCard : Claim7 := { stood := { row := chartMarksRow, standIns := [], harness := (true, "a739794946d7b5a6962d9dbc4c35affe46b074dfd0d7686d04893730157b1c59"), looks := false }, kinds := [], alts := [], laidByText := true, laidKinds := [.data, .pinned], laidTests := true, laidLooks := .later }
def ChartMarksCardSaid : Prop := Claim7.holds Tryd.pinned (.plain (OpenSpec.ofChange chartMarksSpec)) chartMarksCard

/-- THE SECOND FORM's CARD OF 'farandolelaw42.ChartDraw'. -/
def chartDrawUptoCard : Claim7 := { stood := { row := chartDrawUptoRow, standIns := [], harness := (true, "a739794946d7b5a6962d9dbc4c35affe46b074dfd0d7686d04893730157b1c59"), looks := false }, kinds := [], alts := [], laidByText := true, laidKinds := [.data, .pinned], laidTests := true, laidLooks := .later }
def ChartDrawUptoCardSaid : Prop := Claim7.holds Tryd.pinned (.plain (OpenSpec.upto chartDrawSpec)) chartDrawUptoCard

/-- THE SECOND FORM's CARD OF 'farandolelaw42.ChartRead'. -/
def chartReadUptoCard : Claim7 := { stood := { row := chartReadUptoRow, standIns := [], harness := (true, "a739794946d7b5a6962d9dbc4c35affe46b074dfd0d7686d04893730157b1c59"), looks := false }, kinds := [], alts := [], laidByText := true, laidKinds := [.data, .pinned], laidTests := true, laidLooks := .later }
def ChartReadUptoCardSaid : Prop := Claim7.holds Tryd.pinned (.plain (OpenSpec.upto chartReadSpec)) chartReadUptoCard

/-- THE SECOND FORM's CARD OF 'farandolelaw42.ChartInverse'. -/
def chartInverseUptoCard : Claim7 := { stood := { row := chartInverseUptoRow, standIns := [], harness := (true, "a739794946d7b5a6962d9dbc4c35affe46b074dfd0d7686d04893730157b1c59"), looks := false }, kinds := [], alts := [], laidByText := true, laidKinds := [.data, .pinned], laidTests := true, laidLooks := .later }
def ChartInverseUptoCardSaid : Prop := Claim7.holds Tryd.pinned (.plain (OpenSpec.upto chartInverseSpec)) chartInverseUptoCard

/-- THE SECOND FORM's CARD OF 'farandolelaw42.ChartParts'. -/
def chartPartsUptoCard : Claim7 := { stood := { row := chartPartsUptoRow, standIns := [], harness := (true, "a739794946d7b5a6962d9dbc4c35affe46b074dfd0d7686d04893730157b1c59"), looks := false }, kinds := [], alts := [], laidByText := true, laidKinds := [.data, .pinned], laidTests := true, laidLooks := .later }
def ChartPartsUptoCardSaid : Prop := Claim7.holds Tryd.pinned (.plain (OpenSpec.upto chartPartsSpec)) chartPartsUptoCard

/-- THE SECOND FORM's CARD OF 'farandolelaw42.ChartExchange'. -/
def chartExchangeUptoCard : Claim7 := { stood := { row := chartExchangeUptoRow, standIns := [], harness := (true, "a739794946d7b5a6962d9dbc4c35affe46b074dfd0d7686d04893730157b1c59"), looks := false }, kinds := [], alts := [], laidByText := true, laidKinds := [.data, .pinned], laidTests := true, laidLooks := .later }
def ChartExchangeUptoCardSaid : Prop := Claim7.holds Tryd.pinned (.plain (OpenSpec.upto chartExchangeSpec)) chartExchangeUptoCard

/-- THE SECOND FORM's CARD OF 'farandolelaw42.ChartMarks'. -/
def chartMarksUptoCard : Claim7 := { stood := { row := chartMarksUptoRow, standIns := [], harness := (true, "a739794946d7b5a6962d9dbc4c35affe46b074dfd0d7686d04893730157b1c59"), looks := false }, kinds := [], alts := [], laidByText := true, laidKinds := [.data, .pinned], laidTests := true, laidLooks := .later }
def ChartMarksUptoCardSaid : Prop := Claim7.holds Tryd.pinned (.plain (OpenSpec.upto chartMarksSpec)) chartMarksUptoCard
end Rows
end Go.Proofs.YtcaahhppapnbhaaDoor
