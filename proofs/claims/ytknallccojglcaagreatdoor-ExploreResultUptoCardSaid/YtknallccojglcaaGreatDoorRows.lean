/-
  NARROWER THAN 'FOR EVERY INPUT', by the rows' own cells (each row's printed sentence says how): ExploreResult: laid · ExploreLimits: laid · ExploreRoom: laid · ExploreReplay: laid · ExploreShortest: laid · ExploreTraces: laid · ExploreClosed: laid · ExploreRealizable: laid.
  DERIVED. THE GIVEN ROWS OF THIS SEAT. 8 by the template 'for every input the law returns true; each argument reads behind the call as it read before'; 0 by the template 'total and deterministic' (their statements: YtknallccojglcaaGreatDoorTotals.lean).
  GIVEN WITH THE SEED: the statements are not yours to turn. If you find one false, say at which input.
  Laid BY PROGRAM, IN A SANDBOX (cutbox-rows.mjs): the forced cells as the released guide's own fill.sh prints them over the translation e97a2a822d81ecf0… (all of the seat's roots in one cut). By AI agents, Wed Nov 11 2026. No macro, syntax, notation, axiom, sorry.
-/
import Derived.Test.YtknallccojglcaaGreatDoorChecked
import GoSem.PinnedTables
import GoSem.Claim
import GoSem.ClaimJoined
import GoSem.ClaimMapViews
import Derived.JoinedTies
import Derived.KernelRfl
namespace Go.Proofs.YtknallccojglcaaGreatDoor
/- THE CELL 'sum', in the pinned program and in every row, IS THE sha256 OF THE DUMP (.gsa) THAT YtknallccojglcaaGreatDoorProg.lean LOADS. Nothing in Lean hashes anything: it is a label: what it is worth is what the hold of that sum in a sandbox is worth. -/
noncomputable def Tryz.pinned : Pinned := { name := "ytknallccojglcaagreatdoor", sum := "e97a2a822d81ecf0802939bfa125442c64b378471fbb48ee685c4ac3beb41c8e", checked := Tryz.checked }
namespace Rows
def none {H : Type} : Left H := { results := [], args := [] }

/- WHAT THE LISTED PACKAGE-LEVEL VARIABLES READ AS WHEN THE CALL BEGINS. Each datum BY PROGRAM (the guide's laid-datum.mjs) off the statement by which the dump's own 'gosem.cut.vars' lays the variable. In a bare row this is a premise. The card (YtknallccojglcaaGreatDoorCards.lean) ties it to the program's text. -/
def laid_math_bits_deBruijn64tab {H : Type} : DataW H := .agg [.lit (.int .u8 0), .lit (.int .u8 1), .lit (.int .u8 56), .lit (.int .u8 2), .lit (.int .u8 57), .lit (.int .u8 49), .lit (.int .u8 28), .lit (.int .u8 3), .lit (.int .u8 61), .lit (.int .u8 58), .lit (.int .u8 42), .lit (.int .u8 50), .lit (.int .u8 38), .lit (.int .u8 29), .lit (.int .u8 17), .lit (.int .u8 4), .lit (.int .u8 62), .lit (.int .u8 47), .lit (.int .u8 59), .lit (.int .u8 36), .lit (.int .u8 45), .lit (.int .u8 43), .lit (.int .u8 51), .lit (.int .u8 22), .lit (.int .u8 53), .lit (.int .u8 39), .lit (.int .u8 33), .lit (.int .u8 30), .lit (.int .u8 24), .lit (.int .u8 18), .lit (.int .u8 12), .lit (.int .u8 5), .lit (.int .u8 63), .lit (.int .u8 55), .lit (.int .u8 48), .lit (.int .u8 27), .lit (.int .u8 60), .lit (.int .u8 41), .lit (.int .u8 37), .lit (.int .u8 16), .lit (.int .u8 46), .lit (.int .u8 35), .lit (.int .u8 44), .lit (.int .u8 21), .lit (.int .u8 52), .lit (.int .u8 32), .lit (.int .u8 23), .lit (.int .u8 11), .lit (.int .u8 54), .lit (.int .u8 26), .lit (.int .u8 40), .lit (.int .u8 15), .lit (.int .u8 34), .lit (.int .u8 20), .lit (.int .u8 31), .lit (.int .u8 10), .lit (.int .u8 25), .lit (.int .u8 14), .lit (.int .u8 19), .lit (.int .u8 9), .lit (.int .u8 13), .lit (.int .u8 8), .lit (.int .u8 7), .lit (.int .u8 6)]
def laid_unicode_utf8_acceptRanges {H : Type} : DataW H := .agg [.agg [.lit (.int .u8 128), .lit (.int .u8 191)], .agg [.lit (.int .u8 160), .lit (.int .u8 191)], .agg [.lit (.int .u8 128), .lit (.int .u8 159)], .agg [.lit (.int .u8 144), .lit (.int .u8 191)], .agg [.lit (.int .u8 128), .lit (.int .u8 143)], .agg [.lit (.int .u8 0), .lit (.int .u8 0)], .agg [.lit (.int .u8 0), .lit (.int .u8 0)], .agg [.lit (.int .u8 0), .lit (.int .u8 0)], .agg [.lit (.int .u8 0), .lit (.int .u8 0)], .agg [.lit (.int .u8 0), .lit (.int .u8 0)], .agg [.lit (.int .u8 0), .lit (.int .u8 0)], .agg [.lit (.int .u8 0), .lit (.int .u8 0)], .agg [.lit (.int .u8 0), .lit (.int .u8 0)], .agg [.lit (.int .u8 0), .lit (.int .u8 0)], .agg [.lit (.int .u8 0), .lit (.int .u8 0)], .agg [.lit (.int .u8 0), .lit (.int .u8 0)]]
/-- One of Go's own tables, pinned by name: the form's constant. -/
def laid_unicode_utf8_first : DataW Unit := Go.Pinned.utf8First

/-- 'farandolelaw28.ExploreResult': WHATEVER THE INPUT: true; the input reads as it did. -/
def exploreResultSpec : ChangeSpec := { name := "exploreResult", fn := fun _ => fun
  | [d1, d2, d3] => { results := [.lit (.bool true)], args := [d1, d2, d3] }
  | _ => none }
def exploreResultRow : OpenClaim := { program := "ytknallccojglcaagreatdoor", sum := "e97a2a822d81ecf0802939bfa125442c64b378471fbb48ee685c4ac3beb41c8e", func := "farandole/farandolelaw28.ExploreResult", spec := "exploreResult", inPlace := ["internal/bytealg.CountString", "internal/bytealg.IndexByteString", "internal/bytealg.IndexString"], unfollowed := true, recurses := true, named := ["unicode/utf8.first", "unicode/utf8.acceptRanges", "internal/bytealg.MaxLen", "math/bits.deBruijn64tab"], plainKeys := false, apart := false, laid := [("math/bits.deBruijn64tab", laid_math_bits_deBruijn64tab), ("unicode/utf8.acceptRanges", laid_unicode_utf8_acceptRanges), ("unicode/utf8.first", laid_unicode_utf8_first)] }
def ExploreResultSaid : Prop := exploreResultRow.holds Tryz.pinned (OpenSpec.ofChange exploreResultSpec)

/-- ITS FALSE NEIGHBOUR: 'it returns false'. Refute it at one input. -/
def exploreResultWrong : ChangeSpec := { name := "exploreResult", fn := fun _ => fun
  | [d1, d2, d3] => { results := [.lit (.bool false)], args := [d1, d2, d3] }
  | _ => none }
def ExploreResultWrongFalsely : Prop := exploreResultRow.holds Tryz.pinned (OpenSpec.ofChange exploreResultWrong)

/-- 'farandolelaw28.ExploreLimits': WHATEVER THE INPUT: true; the input reads as it did. -/
def exploreLimitsSpec : ChangeSpec := { name := "exploreLimits", fn := fun _ => fun
  | [d1, d2, d3] => { results := [.lit (.bool true)], args := [d1, d2, d3] }
  | _ => none }
def exploreLimitsRow : OpenClaim := { program := "ytknallccojglcaagreatdoor", sum := "e97a2a822d81ecf0802939bfa125442c64b378471fbb48ee685c4ac3beb41c8e", func := "farandole/farandolelaw28.ExploreLimits", spec := "exploreLimits", inPlace := ["internal/bytealg.CountString", "internal/bytealg.IndexByteString", "internal/bytealg.IndexString"], unfollowed := true, recurses := true, named := ["unicode/utf8.first", "unicode/utf8.acceptRanges", "internal/bytealg.MaxLen", "math/bits.deBruijn64tab"], plainKeys := false, apart := false, laid := [("math/bits.deBruijn64tab", laid_math_bits_deBruijn64tab), ("unicode/utf8.acceptRanges", laid_unicode_utf8_acceptRanges), ("unicode/utf8.first", laid_unicode_utf8_first)] }
def ExploreLimitsSaid : Prop := exploreLimitsRow.holds Tryz.pinned (OpenSpec.ofChange exploreLimitsSpec)

/-- ITS FALSE NEIGHBOUR: 'it returns false'. Refute it at one input. -/
def exploreLimitsWrong : ChangeSpec := { name := "exploreLimits", fn := fun _ => fun
  | [d1, d2, d3] => { results := [.lit (.bool false)], args := [d1, d2, d3] }
  | _ => none }
def ExploreLimitsWrongFalsely : Prop := exploreLimitsRow.holds Tryz.pinned (OpenSpec.ofChange exploreLimitsWrong)

/-- 'farandolelaw28.ExploreRoom': WHATEVER THE INPUT: true; the input reads as it did. -/
def exploreRoomSpec : ChangeSpec := { name := "exploreRoom", fn := fun _ => fun
  | [d1, d2, d3] => { results := [.lit (.bool true)], args := [d1, d2, d3] }
  | _ => none }
def exploreRoomRow : OpenClaim := { program := "ytknallccojglcaagreatdoor", sum := "e97a2a822d81ecf0802939bfa125442c64b378471fbb48ee685c4ac3beb41c8e", func := "farandole/farandolelaw28.ExploreRoom", spec := "exploreRoom", inPlace := ["internal/bytealg.CountString", "internal/bytealg.IndexByteString", "internal/bytealg.IndexString"], unfollowed := true, recurses := true, named := ["unicode/utf8.first", "unicode/utf8.acceptRanges", "internal/bytealg.MaxLen", "math/bits.deBruijn64tab"], plainKeys := false, apart := false, laid := [("math/bits.deBruijn64tab", laid_math_bits_deBruijn64tab), ("unicode/utf8.acceptRanges", laid_unicode_utf8_acceptRanges), ("unicode/utf8.first", laid_unicode_utf8_first)] }
def ExploreRoomSaid : Prop := exploreRoomRow.holds Tryz.pinned (OpenSpec.ofChange exploreRoomSpec)

/-- ITS FALSE NEIGHBOUR: 'it returns false'. Refute it at one input. -/
def exploreRoomWrong : ChangeSpec := { name := "exploreRoom", fn := fun _ => fun
  | [d1, d2, d3] => { results := [.lit (.bool false)], args := [d1, d2, d3] }
  | _ => none }
def ExploreRoomWrongFalsely : Prop := exploreRoomRow.holds Tryz.pinned (OpenSpec.ofChange exploreRoomWrong)

/-- 'farandolelaw28.ExploreReplay': WHATEVER THE INPUT: true; the input reads as it did. -/
def exploreReplaySpec : ChangeSpec := { name := "exploreReplay", fn := fun _ => fun
  | [d1, d2, d3] => { results := [.lit (.bool true)], args := [d1, d2, d3] }
  | _ => none }
def exploreReplayRow : OpenClaim := { program := "ytknallccojglcaagreatdoor", sum := "e97a2a822d81ecf0802939bfa125442c64b378471fbb48ee685c4ac3beb41c8e", func := "farandole/farandolelaw28.ExploreReplay", spec := "exploreReplay", inPlace := ["internal/bytealg.CountString", "internal/bytealg.IndexByteString", "internal/bytealg.IndexString"], unfollowed := true, recurses := true, named := ["unicode/utf8.first", "unicode/utf8.acceptRanges", "internal/bytealg.MaxLen", "math/bits.deBruijn64tab"], plainKeys := false, apart := false, laid := [("math/bits.deBruijn64tab", laid_math_bits_deBruijn64tab), ("unicode/utf8.acceptRanges", laid_unicode_utf8_acceptRanges), ("unicode/utf8.first", laid_unicode_utf8_first)] }
def ExploreReplaySaid : Prop := exploreReplayRow.holds Tryz.pinned (OpenSpec.ofChange exploreReplaySpec)

/-- ITS FALSE NEIGHBOUR: 'it returns false'. Refute it at one input. -/
def exploreReplayWrong : ChangeSpec := { name := "exploreReplay", fn := fun _ => fun
  | [d1, d2, d3] => { results := [.lit (.bool false)], args := [d1, d2, d3] }
  | _ => none }
def ExploreReplayWrongFalsely : Prop := exploreReplayRow.holds Tryz.pinned (OpenSpec.ofChange exploreReplayWrong)

/-- 'farandolelaw28.ExploreShortest': WHATEVER THE INPUT: true; the input reads as it did. -/
def exploreShortestSpec : ChangeSpec := { name := "exploreShortest", fn := fun _ => fun
  | [d1, d2, d3] => { results := [.lit (.bool true)], args := [d1, d2, d3] }
  | _ => none }
def exploreShortestRow : OpenClaim := { program := "ytknallccojglcaagreatdoor", sum := "e97a2a822d81ecf0802939bfa125442c64b378471fbb48ee685c4ac3beb41c8e", func := "farandole/farandolelaw28.ExploreShortest", spec := "exploreShortest", inPlace := ["internal/bytealg.CountString", "internal/bytealg.IndexByteString", "internal/bytealg.IndexString"], unfollowed := true, recurses := true, named := ["unicode/utf8.first", "unicode/utf8.acceptRanges", "internal/bytealg.MaxLen", "math/bits.deBruijn64tab"], plainKeys := false, apart := false, laid := [("math/bits.deBruijn64tab", laid_math_bits_deBruijn64tab), ("unicode/utf8.acceptRanges", laid_unicode_utf8_acceptRanges), ("unicode/utf8.first", laid_unicode_utf8_first)] }
def ExploreShortestSaid : Prop := exploreShortestRow.holds Tryz.pinned (OpenSpec.ofChange exploreShortestSpec)

/-- ITS FALSE NEIGHBOUR: 'it returns false'. Refute it at one input. -/
def exploreShortestWrong : ChangeSpec := { name := "exploreShortest", fn := fun _ => fun
  | [d1, d2, d3] => { results := [.lit (.bool false)], args := [d1, d2, d3] }
  | _ => none }
def ExploreShortestWrongFalsely : Prop := exploreShortestRow.holds Tryz.pinned (OpenSpec.ofChange exploreShortestWrong)

/-- 'farandolelaw28.ExploreTraces': WHATEVER THE INPUT: true; the input reads as it did. -/
def exploreTracesSpec : ChangeSpec := { name := "exploreTraces", fn := fun _ => fun
  | [d1, d2, d3] => { results := [.lit (.bool true)], args := [d1, d2, d3] }
  | _ => none }
def exploreTracesRow : OpenClaim := { program := "ytknallccojglcaagreatdoor", sum := "e97a2a822d81ecf0802939bfa125442c64b378471fbb48ee685c4ac3beb41c8e", func := "farandole/farandolelaw28.ExploreTraces", spec := "exploreTraces", inPlace := ["internal/bytealg.CountString", "internal/bytealg.IndexByteString", "internal/bytealg.IndexString"], unfollowed := true, recurses := true, named := ["unicode/utf8.first", "unicode/utf8.acceptRanges", "internal/bytealg.MaxLen", "math/bits.deBruijn64tab"], plainKeys := false, apart := false, laid := [("math/bits.deBruijn64tab", laid_math_bits_deBruijn64tab), ("unicode/utf8.acceptRanges", laid_unicode_utf8_acceptRanges), ("unicode/utf8.first", laid_unicode_utf8_first)] }
def ExploreTracesSaid : Prop := exploreTracesRow.holds Tryz.pinned (OpenSpec.ofChange exploreTracesSpec)

/-- ITS FALSE NEIGHBOUR: 'it returns false'. Refute it at one input. -/
def exploreTracesWrong : ChangeSpec := { name := "exploreTraces", fn := fun _ => fun
  | [d1, d2, d3] => { results := [.lit (.bool false)], args := [d1, d2, d3] }
  | _ => none }
def ExploreTracesWrongFalsely : Prop := exploreTracesRow.holds Tryz.pinned (OpenSpec.ofChange exploreTracesWrong)

/-- 'farandolelaw28.ExploreClosed': WHATEVER THE INPUT: true; the input reads as it did. -/
def exploreClosedSpec : ChangeSpec := { name := "exploreClosed", fn := fun _ => fun
  | [d1, d2, d3] => { results := [.lit (.bool true)], args := [d1, d2, d3] }
  | _ => none }
def exploreClosedRow : OpenClaim := { program := "ytknallccojglcaagreatdoor", sum := "e97a2a822d81ecf0802939bfa125442c64b378471fbb48ee685c4ac3beb41c8e", func := "farandole/farandolelaw28.ExploreClosed", spec := "exploreClosed", inPlace := ["internal/bytealg.CountString", "internal/bytealg.IndexByteString", "internal/bytealg.IndexString"], unfollowed := true, recurses := true, named := ["unicode/utf8.first", "unicode/utf8.acceptRanges", "internal/bytealg.MaxLen", "math/bits.deBruijn64tab"], plainKeys := false, apart := false, laid := [("math/bits.deBruijn64tab", laid_math_bits_deBruijn64tab), ("unicode/utf8.acceptRanges", laid_unicode_utf8_acceptRanges), ("unicode/utf8.first", laid_unicode_utf8_first)] }
def ExploreClosedSaid : Prop := exploreClosedRow.holds Tryz.pinned (OpenSpec.ofChange exploreClosedSpec)

/-- ITS FALSE NEIGHBOUR: 'it returns false'. Refute it at one input. -/
def exploreClosedWrong : ChangeSpec := { name := "exploreClosed", fn := fun _ => fun
  | [d1, d2, d3] => { results := [.lit (.bool false)], args := [d1, d2, d3] }
  | _ => none }
def ExploreClosedWrongFalsely : Prop := exploreClosedRow.holds Tryz.pinned (OpenSpec.ofChange exploreClosedWrong)

/-- 'farandolelaw28.ExploreRealizable': WHATEVER THE INPUT: true; the input reads as it did. -/
def exploreRealizableSpec : ChangeSpec := { name := "exploreRealizable", fn := fun _ => fun
  | [d1, d2] => { results := [.lit (.bool true)], args := [d1, d2] }
  | _ => none }
def exploreRealizableRow : OpenClaim := { program := "ytknallccojglcaagreatdoor", sum := "e97a2a822d81ecf0802939bfa125442c64b378471fbb48ee685c4ac3beb41c8e", func := "farandole/farandolelaw28.ExploreRealizable", spec := "exploreRealizable", inPlace := ["internal/bytealg.CountString", "internal/bytealg.IndexByteString", "internal/bytealg.IndexString"], unfollowed := true, recurses := true, named := ["unicode/utf8.first", "unicode/utf8.acceptRanges", "internal/bytealg.MaxLen", "math/bits.deBruijn64tab"], plainKeys := false, apart := false, laid := [("math/bits.deBruijn64tab", laid_math_bits_deBruijn64tab), ("unicode/utf8.acceptRanges", laid_unicode_utf8_acceptRanges), ("unicode/utf8.first", laid_unicode_utf8_first)] }
def ExploreRealizableSaid : Prop := exploreRealizableRow.holds Tryz.pinned (OpenSpec.ofChange exploreRealizableSpec)

/-- ITS FALSE NEIGHBOUR: 'it returns false'. Refute it at one input. -/
def exploreRealizableWrong : ChangeSpec := { name := "exploreRealizable", fn := fun _ => fun
  | [d1, d2] => { results := [.lit (.bool false)], args := [d1, d2] }
  | _ => none }
def ExploreRealizableWrongFalsely : Prop := exploreRealizableRow.holds Tryz.pinned (OpenSpec.ofChange exploreRealizableWrong)

/- THE SECOND FORM. 'bulk': how many values and letters a reading holds, each counted each time it is reached (what is shared counts as often as it is met; a slice's spare places count too). A statement '..UptoSaid' is the law's where the arguments, and the package variables that the reading takes, are together of bulk at most 1048576: NARROWER than '..Said'. Prove '..Said' where nothing that the law and all that it calls make is longer than what came in: it says more and counts as full. Else prove '..UptoSaid'. A law counts once. -/
mutual
def uptoBulk {H : Type} : DataW H → Nat
  | .lit (.string bytes) => bytes.length + 1
  | .lit _ => 1
  | .nil => 1
  | .ptr d => uptoBulk d + 1
  | .slice elems spare => uptoBulkAll elems + uptoBulkAll spare + 1
  | .agg parts => uptoBulkAll parts + 1
  | .iface _ d => uptoBulk d + 1
  | .map entries => uptoBulkEntries entries + 1
  | .held _ => 1
def uptoBulkAll {H : Type} : List (DataW H) → Nat
  | [] => 0
  | d :: r => uptoBulk d + uptoBulkAll r
def uptoBulkEntries {H : Type} : List (Lit × DataW H) → Nat
  | [] => 0
  | x :: r => uptoBulkEntry x + uptoBulkEntries r
def uptoBulkEntry {H : Type} : Lit × DataW H → Nat
  | (.string bytes, d) => bytes.length + uptoBulk d + 1
  | (_, d) => uptoBulk d + 1
 end
def uptoSmall : (H : Type) → List (DataW H) → Bool := fun _ ds => decide (uptoBulkAll ds ≤ 1048576)
def OpenSpec.upto (s : _root_.Go.ChangeSpec) : _root_.Go.OpenSpec := { _root_.Go.OpenSpec.ofChange s with cond := some uptoSmall }

/-- 'farandolelaw28.ExploreResult', WHERE WHAT IT READS IS OF BULK AT MOST 1048576: true; the input reads as it did. -/
def exploreResultUptoRow : OpenClaim := { program := "ytknallccojglcaagreatdoor", sum := "e97a2a822d81ecf0802939bfa125442c64b378471fbb48ee685c4ac3beb41c8e", func := "farandole/farandolelaw28.ExploreResult", spec := "exploreResult", inPlace := ["internal/bytealg.CountString", "internal/bytealg.IndexByteString", "internal/bytealg.IndexString"], unfollowed := true, recurses := true, named := ["unicode/utf8.first", "unicode/utf8.acceptRanges", "internal/bytealg.MaxLen", "math/bits.deBruijn64tab"], plainKeys := false, apart := false, laid := [("math/bits.deBruijn64tab", laid_math_bits_deBruijn64tab), ("unicode/utf8.acceptRanges", laid_unicode_utf8_acceptRanges), ("unicode/utf8.first", laid_unicode_utf8_first)], narrowed := true }
def ExploreResultUptoSaid : Prop := exploreResultUptoRow.holds Tryz.pinned (OpenSpec.upto exploreResultSpec)

/-- 'farandolelaw28.ExploreLimits', WHERE WHAT IT READS IS OF BULK AT MOST 1048576: true; the input reads as it did. -/
def exploreLimitsUptoRow : OpenClaim := { program := "ytknallccojglcaagreatdoor", sum := "e97a2a822d81ecf0802939bfa125442c64b378471fbb48ee685c4ac3beb41c8e", func := "farandole/farandolelaw28.ExploreLimits", spec := "exploreLimits", inPlace := ["internal/bytealg.CountString", "internal/bytealg.IndexByteString", "internal/bytealg.IndexString"], unfollowed := true, recurses := true, named := ["unicode/utf8.first", "unicode/utf8.acceptRanges", "internal/bytealg.MaxLen", "math/bits.deBruijn64tab"], plainKeys := false, apart := false, laid := [("math/bits.deBruijn64tab", laid_math_bits_deBruijn64tab), ("unicode/utf8.acceptRanges", laid_unicode_utf8_acceptRanges), ("unicode/utf8.first", laid_unicode_utf8_first)], narrowed := true }
def ExploreLimitsUptoSaid : Prop := exploreLimitsUptoRow.holds Tryz.pinned (OpenSpec.upto exploreLimitsSpec)

/-- 'farandolelaw28.ExploreRoom', WHERE WHAT IT READS IS OF BULK AT MOST 1048576: true; the input reads as it did. -/
def exploreRoomUptoRow : OpenClaim := { program := "ytknallccojglcaagreatdoor", sum := "e97a2a822d81ecf0802939bfa125442c64b378471fbb48ee685c4ac3beb41c8e", func := "farandole/farandolelaw28.ExploreRoom", spec := "exploreRoom", inPlace := ["internal/bytealg.CountString", "internal/bytealg.IndexByteString", "internal/bytealg.IndexString"], unfollowed := true, recurses := true, named := ["unicode/utf8.first", "unicode/utf8.acceptRanges", "internal/bytealg.MaxLen", "math/bits.deBruijn64tab"], plainKeys := false, apart := false, laid := [("math/bits.deBruijn64tab", laid_math_bits_deBruijn64tab), ("unicode/utf8.acceptRanges", laid_unicode_utf8_acceptRanges), ("unicode/utf8.first", laid_unicode_utf8_first)], narrowed := true }
def ExploreRoomUptoSaid : Prop := exploreRoomUptoRow.holds Tryz.pinned (OpenSpec.upto exploreRoomSpec)

/-- 'farandolelaw28.ExploreReplay', WHERE WHAT IT READS IS OF BULK AT MOST 1048576: true; the input reads as it did. -/
def exploreReplayUptoRow : OpenClaim := { program := "ytknallccojglcaagreatdoor", sum := "e97a2a822d81ecf0802939bfa125442c64b378471fbb48ee685c4ac3beb41c8e", func := "farandole/farandolelaw28.ExploreReplay", spec := "exploreReplay", inPlace := ["internal/bytealg.CountString", "internal/bytealg.IndexByteString", "internal/bytealg.IndexString"], unfollowed := true, recurses := true, named := ["unicode/utf8.first", "unicode/utf8.acceptRanges", "internal/bytealg.MaxLen", "math/bits.deBruijn64tab"], plainKeys := false, apart := false, laid := [("math/bits.deBruijn64tab", laid_math_bits_deBruijn64tab), ("unicode/utf8.acceptRanges", laid_unicode_utf8_acceptRanges), ("unicode/utf8.first", laid_unicode_utf8_first)], narrowed := true }
def ExploreReplayUptoSaid : Prop := exploreReplayUptoRow.holds Tryz.pinned (OpenSpec.upto exploreReplaySpec)

/-- 'farandolelaw28.ExploreShortest', WHERE WHAT IT READS IS OF BULK AT MOST 1048576: true; the input reads as it did. -/
def exploreShortestUptoRow : OpenClaim := { program := "ytknallccojglcaagreatdoor", sum := "e97a2a822d81ecf0802939bfa125442c64b378471fbb48ee685c4ac3beb41c8e", func := "farandole/farandolelaw28.ExploreShortest", spec := "exploreShortest", inPlace := ["internal/bytealg.CountString", "internal/bytealg.IndexByteString", "internal/bytealg.IndexString"], unfollowed := true, recurses := true, named := ["unicode/utf8.first", "unicode/utf8.acceptRanges", "internal/bytealg.MaxLen", "math/bits.deBruijn64tab"], plainKeys := false, apart := false, laid := [("math/bits.deBruijn64tab", laid_math_bits_deBruijn64tab), ("unicode/utf8.acceptRanges", laid_unicode_utf8_acceptRanges), ("unicode/utf8.first", laid_unicode_utf8_first)], narrowed := true }
def ExploreShortestUptoSaid : Prop := exploreShortestUptoRow.holds Tryz.pinned (OpenSpec.upto exploreShortestSpec)

/-- 'farandolelaw28.ExploreTraces', WHERE WHAT IT READS IS OF BULK AT MOST 1048576: true; the input reads as it did. -/
def exploreTracesUptoRow : OpenClaim := { program := "ytknallccojglcaagreatdoor", sum := "e97a2a822d81ecf0802939bfa125442c64b378471fbb48ee685c4ac3beb41c8e", func := "farandole/farandolelaw28.ExploreTraces", spec := "exploreTraces", inPlace := ["internal/bytealg.CountString", "internal/bytealg.IndexByteString", "internal/bytealg.IndexString"], unfollowed := true, recurses := true, named := ["unicode/utf8.first", "unicode/utf8.acceptRanges", "internal/bytealg.MaxLen", "math/bits.deBruijn64tab"], plainKeys := false, apart := false, laid := [("math/bits.deBruijn64tab", laid_math_bits_deBruijn64tab), ("unicode/utf8.acceptRanges", laid_unicode_utf8_acceptRanges), ("unicode/utf8.first", laid_unicode_utf8_first)], narrowed := true }
def ExploreTracesUptoSaid : Prop := exploreTracesUptoRow.holds Tryz.pinned (OpenSpec.upto exploreTracesSpec)

/-- 'farandolelaw28.ExploreClosed', WHERE WHAT IT READS IS OF BULK AT MOST 1048576: true; the input reads as it did. -/
def exploreClosedUptoRow : OpenClaim := { program := "ytknallccojglcaagreatdoor", sum := "e97a2a822d81ecf0802939bfa125442c64b378471fbb48ee685c4ac3beb41c8e", func := "farandole/farandolelaw28.ExploreClosed", spec := "exploreClosed", inPlace := ["internal/bytealg.CountString", "internal/bytealg.IndexByteString", "internal/bytealg.IndexString"], unfollowed := true, recurses := true, named := ["unicode/utf8.first", "unicode/utf8.acceptRanges", "internal/bytealg.MaxLen", "math/bits.deBruijn64tab"], plainKeys := false, apart := false, laid := [("math/bits.deBruijn64tab", laid_math_bits_deBruijn64tab), ("unicode/utf8.acceptRanges", laid_unicode_utf8_acceptRanges), ("unicode/utf8.first", laid_unicode_utf8_first)], narrowed := true }
def ExploreClosedUptoSaid : Prop := exploreClosedUptoRow.holds Tryz.pinned (OpenSpec.upto exploreClosedSpec)

/-- 'farandolelaw28.ExploreRealizable', WHERE WHAT IT READS IS OF BULK AT MOST 1048576: true; the input reads as it did. -/
def exploreRealizableUptoRow : OpenClaim := { program := "ytknallccojglcaagreatdoor", sum := "e97a2a822d81ecf0802939bfa125442c64b378471fbb48ee685c4ac3beb41c8e", func := "farandole/farandolelaw28.ExploreRealizable", spec := "exploreRealizable", inPlace := ["internal/bytealg.CountString", "internal/bytealg.IndexByteString", "internal/bytealg.IndexString"], unfollowed := true, recurses := true, named := ["unicode/utf8.first", "unicode/utf8.acceptRanges", "internal/bytealg.MaxLen", "math/bits.deBruijn64tab"], plainKeys := false, apart := false, laid := [("math/bits.deBruijn64tab", laid_math_bits_deBruijn64tab), ("unicode/utf8.acceptRanges", laid_unicode_utf8_acceptRanges), ("unicode/utf8.first", laid_unicode_utf8_first)], narrowed := true }
def ExploreRealizableUptoSaid : Prop := exploreRealizableUptoRow.holds Tryz.pinned (OpenSpec.upto exploreRealizableSpec)

end Rows
end Go.Proofs.YtknallccojglcaaGreatDoor
