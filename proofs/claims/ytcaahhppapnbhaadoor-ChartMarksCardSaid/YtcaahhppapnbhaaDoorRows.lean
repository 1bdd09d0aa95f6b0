/-
  NARROWER THAN 'FOR EVERY INPUT', by the rows' own cells (each row's printed sentence says how): ChartDraw: laid · ChartRead: laid · ChartInverse: laid · ChartParts: laid · ChartExchange: laid · ChartMarks: laid.
  DERIVED. THE GIVEN ROWS OF THIS SEAT. 6 by the template 'for every input the law returns true; each argument reads behind the call as it read before'; 0 by the template 'total and deterministic' (their statements: YtcaahhppapnbhaaDoorTotals.lean).
  GIVEN WITH THE SEED: the statements are not yours to turn. If you find one false, say at which input.
  Laid BY PROGRAM, IN A SANDBOX (cutbox-rows.mjs): the forced cells as the released guide's own fill.sh prints them over the translation a735777d1ee58917… (all of the seat's roots in one cut). By AI agents, Wed Nov 11 2026. No macro, syntax, notation, axiom, sorry.
-/
import Derived.Test.YtcaahhppapnbhaaDoorChecked
import GoSem.PinnedTables
import GoSem.Claim
import GoSem.ClaimJoined
import GoSem.ClaimMapViews
import Derived.JoinedTies
import Derived.KernelRfl
namespace Go.Proofs.YtcaahhppapnbhaaDoor
/- THE CELL 'sum', in the pinned program and in every row, IS THE sha256 OF THE DUMP (.gsa) THAT YtcaahhppapnbhaaDoorProg.lean LOADS. Nothing in Lean hashes anything: it is a label: what it is worth is what the hold of that sum in a sandbox is worth. -/
noncomputable def Tryd.pinned : Pinned := { name := "ytcaahhppapnbhaadoor", sum := "a735777d1ee589176565d0d5c20add3e7a634607207da232ebd9c8acf96c0cf0", checked := Tryd.checked }
namespace Rows
def none {H : Type} : Left H := { results := [], args := [] }

/- WHAT THE LISTED PACKAGE-LEVEL VARIABLES READ AS WHEN THE CALL BEGINS. Each datum BY PROGRAM (the guide's laid-datum.mjs) off the statement by which the dump's own 'gosem.cut.vars' lays the variable. In a bare row this is a premise. The card (YtcaahhppapnbhaaDoorCards.lean) ties it to the program's text. -/
def laid_unicode_utf8_acceptRanges {H : Type} : DataW H := .agg [.agg [.lit (.int .u8 128), .lit (.int .u8 191)], .agg [.lit (.int .u8 160), .lit (.int .u8 191)], .agg [.lit (.int .u8 128), .lit (.int .u8 159)], .agg [.lit (.int .u8 144), .lit (.int .u8 191)], .agg [.lit (.int .u8 128), .lit (.int .u8 143)], .agg [.lit (.int .u8 0), .lit (.int .u8 0)], .agg [.lit (.int .u8 0), .lit (.int .u8 0)], .agg [.lit (.int .u8 0), .lit (.int .u8 0)], .agg [.lit (.int .u8 0), .lit (.int .u8 0)], .agg [.lit (.int .u8 0), .lit (.int .u8 0)], .agg [.lit (.int .u8 0), .lit (.int .u8 0)], .agg [.lit (.int .u8 0), .lit (.int .u8 0)], .agg [.lit (.int .u8 0), .lit (.int .u8 0)], .agg [.lit (.int .u8 0), .lit (.int .u8 0)], .agg [.lit (.int .u8 0), .lit (.int .u8 0)], .agg [.lit (.int .u8 0), .lit (.int .u8 0)]]
/-- One of Go's own tables, pinned by name: the form's constant. -/
def laid_unicode_utf8_first : DataW Unit := Go.Pinned.utf8First

/-- 'farandolelaw42.ChartDraw': WHATEVER THE INPUT: true; the input reads as it did. -/
def chartDrawSpec : ChangeSpec := { name := "chartDraw", fn := fun _ => fun
  | [d1, d2] => { results := [.lit (.bool true)], args := [d1, d2] }
  | _ => none }
def chartDrawRow : OpenClaim := { program := "ytcaahhppapnbhaadoor", sum := "a735777d1ee589176565d0d5c20add3e7a634607207da232ebd9c8acf96c0cf0", func := "farandole/farandolelaw42.ChartDraw", spec := "chartDraw", inPlace := ["internal/abi.NoEscape", "internal/bytealg.MakeNoZero", "internal/bytealg.IndexByteString", "internal/bytealg.IndexString"], unfollowed := true, recurses := true, named := ["unicode/utf8.first", "unicode/utf8.acceptRanges", "internal/bytealg.MaxLen"], apart := false, laid := [("unicode/utf8.acceptRanges", laid_unicode_utf8_acceptRanges), ("unicode/utf8.first", laid_unicode_utf8_first)] }
def ChartDrawSaid : Prop := chartDrawRow.holds Tryd.pinned (OpenSpec.ofChange chartDrawSpec)

/-- ITS FALSE NEIGHBOUR: 'it returns false'. Refute it at one input. -/
def chartDrawWrong : ChangeSpec := { name := "chartDraw", fn := fun _ => fun
  | [d1, d2] => { results := [.lit (.bool false)], args := [d1, d2] }
  | _ => none }
def ChartDrawWrongFalsely : Prop := chartDrawRow.holds Tryd.pinned (OpenSpec.ofChange chartDrawWrong)

/-- 'farandolelaw42.ChartRead': WHATEVER THE INPUT: true; the input reads as it did. -/
def chartReadSpec : ChangeSpec := { name := "chartRead", fn := fun _ => fun
  | [d1, d2] => { results := [.lit (.bool true)], args := [d1, d2] }
  | _ => none }
def chartReadRow : OpenClaim := { program := "ytcaahhppapnbhaadoor", sum := "a735777d1ee589176565d0d5c20add3e7a634607207da232ebd9c8acf96c0cf0", func := "farandole/farandolelaw42.ChartRead", spec := "chartRead", inPlace := ["internal/abi.NoEscape", "internal/bytealg.MakeNoZero", "internal/bytealg.IndexByteString", "internal/bytealg.IndexString"], unfollowed := true, recurses := true, named := ["unicode/utf8.first", "unicode/utf8.acceptRanges", "internal/bytealg.MaxLen"], apart := false, laid := [("unicode/utf8.acceptRanges", laid_unicode_utf8_acceptRanges), ("unicode/utf8.first", laid_unicode_utf8_first)] }
def ChartReadSaid : Prop := chartReadRow.holds Tryd.pinned (OpenSpec.ofChange chartReadSpec)

/-- ITS FALSE NEIGHBOUR: 'it returns false'. Refute it at one input. -/
def chartReadWrong : ChangeSpec := { name := "chartRead", fn := fun _ => fun
  | [d1, d2] => { results := [.lit (.bool false)], args := [d1, d2] }
  | _ => none }
def ChartReadWrongFalsely : Prop := chartReadRow.holds Tryd.pinned (OpenSpec.ofChange chartReadWrong)

/-- 'farandolelaw42.ChartInverse': WHATEVER THE INPUT: true; the input reads as it did. -/
def chartInverseSpec : ChangeSpec := { name := "chartInverse", fn := fun _ => fun
  | [d1, d2] => { results := [.lit (.bool true)], args := [d1, d2] }
  | _ => none }
def chartInverseRow : OpenClaim := { program := "ytcaahhppapnbhaadoor", sum := "a735777d1ee589176565d0d5c20add3e7a634607207da232ebd9c8acf96c0cf0", func := "farandole/farandolelaw42.ChartInverse", spec := "chartInverse", inPlace := ["internal/abi.NoEscape", "internal/bytealg.MakeNoZero", "internal/bytealg.IndexByteString", "internal/bytealg.IndexString"], unfollowed := true, recurses := true, named := ["unicode/utf8.first", "unicode/utf8.acceptRanges", "internal/bytealg.MaxLen"], apart := false, laid := [("unicode/utf8.acceptRanges", laid_unicode_utf8_acceptRanges), ("unicode/utf8.first", laid_unicode_utf8_first)] }
def ChartInverseSaid : Prop := chartInverseRow.holds Tryd.pinned (OpenSpec.ofChange chartInverseSpec)

/-- ITS FALSE NEIGHBOUR: 'it returns false'. Refute it at one input. -/
def chartInverseWrong : ChangeSpec := { name := "chartInverse", fn := fun _ => fun
  | [d1, d2] => { results := [.lit (.bool false)], args := [d1, d2] }
  | _ => none }
def ChartInverseWrongFalsely : Prop := chartInverseRow.holds Tryd.pinned (OpenSpec.ofChange chartInverseWrong)

/-- 'farandolelaw42.ChartParts': WHATEVER THE INPUT: true; the input reads as it did. -/
def chartPartsSpec : ChangeSpec := { name := "chartParts", fn := fun _ => fun
  | [d1, d2, d3] => { results := [.lit (.bool true)], args := [d1, d2, d3] }
  | _ => none }
def chartPartsRow : OpenClaim := { program := "ytcaahhppapnbhaadoor", sum := "a735777d1ee589176565d0d5c20add3e7a634607207da232ebd9c8acf96c0cf0", func := "farandole/farandolelaw42.ChartParts", spec := "chartParts", inPlace := ["internal/abi.NoEscape", "internal/bytealg.MakeNoZero", "internal/bytealg.IndexByteString", "internal/bytealg.IndexString"], unfollowed := true, recurses := true, named := ["unicode/utf8.first", "unicode/utf8.acceptRanges", "internal/bytealg.MaxLen"], apart := false, laid := [("unicode/utf8.acceptRanges", laid_unicode_utf8_acceptRanges), ("unicode/utf8.first", laid_unicode_utf8_first)] }
def ChartPartsSaid : Prop := chartPartsRow.holds Tryd.pinned (OpenSpec.ofChange chartPartsSpec)

/-- ITS FALSE NEIGHBOUR: 'it returns false'. Refute it at one input. -/
def chartPartsWrong : ChangeSpec := { name := "chartParts", fn := fun _ => fun
  | [d1, d2, d3] => { results := [.lit (.bool false)], args := [d1, d2, d3] }
  | _ => none }
def ChartPartsWrongFalsely : Prop := chartPartsRow.holds Tryd.pinned (OpenSpec.ofChange chartPartsWrong)

/-- 'farandolelaw42.ChartExchange': WHATEVER THE INPUT: true; the input reads as it did. -/
def chartExchangeSpec : ChangeSpec := { name := "chartExchange", fn := fun _ => fun
  | [d1, d2, d3] => { results := [.lit (.bool true)], args := [d1, d2, d3] }
  | _ => none }
def chartExchangeRow : OpenClaim := { program := "ytcaahhppapnbhaadoor", sum := "a735777d1ee589176565d0d5c20add3e7a634607207da232ebd9c8acf96c0cf0", func := "farandole/farandolelaw42.ChartExchange", spec := "chartExchange", inPlace := ["internal/abi.NoEscape", "internal/bytealg.MakeNoZero", "internal/bytealg.IndexByteString", "internal/bytealg.IndexString"], unfollowed := true, recurses := true, named := ["unicode/utf8.first", "unicode/utf8.acceptRanges", "internal/bytealg.MaxLen"], apart := false, laid := [("unicode/utf8.acceptRanges", laid_unicode_utf8_acceptRanges), ("unicode/utf8.first", laid_unicode_utf8_first)] }
def ChartExchangeSaid : Prop := chartExchangeRow.holds Tryd.pinned (OpenSpec.ofChange chartExchangeSpec)

/-- ITS FALSE NEIGHBOUR: 'it returns false'. Refute it at one input. -/
def chartExchangeWrong : ChangeSpec := { name := "chartExchange", fn := fun _ => fun
  | [d1, d2, d3] => { results := [.lit (.bool false)], args := [d1, d2, d3] }
  | _ => none }
def ChartExchangeWrongFalsely : Prop := chartExchangeRow.holds Tryd.pinned (OpenSpec.ofChange chartExchangeWrong)

/-- 'farandolelaw42.ChartMarks': WHATEVER THE INPUT: true; the input reads as it did. -/
def chartMarksSpec : ChangeSpec := { name := "chartMarks", fn := fun _ => fun
  | [d1, d2] => { results := [.lit (.bool true)], args := [d1, d2] }
  | _ => none }
def chartMarksRow : OpenClaim := { program := "ytcaahhppapnbhaadoor", sum := "a735777d1ee589176565d0d5c20add3e7a634607207da232ebd9c8acf96c0cf0", func := "farandole/farandolelaw42.ChartMarks", spec := "chartMarks", inPlace := ["internal/abi.NoEscape", "internal/bytealg.MakeNoZero", "internal/bytealg.IndexByteString", "internal/bytealg.IndexString"], unfollowed := true, recurses := true, named := ["unicode/utf8.first", "unicode/utf8.acceptRanges", "internal/bytealg.MaxLen"], apart := false, laid := [("unicode/utf8.acceptRanges", laid_unicode_utf8_acceptRanges), ("unicode/utf8.first", laid_unicode_utf8_first)] }
def ChartMarksSaid : Prop := chartMarksRow.holds Tryd.pinned (OpenSpec.ofChange chartMarksSpec)

/-- ITS FALSE NEIGHBOUR: 'it returns false'. Refute it at one input. -/
def chartMarksWrong : ChangeSpec := { name := "chartMarks", fn := fun _ => fun
  | [d1, d2] => { results := [.lit (.bool false)], args := [d1, d2] }
  | _ => none }
def ChartMarksWrongFalsely : Prop := chartMarksRow.holds Tryd.pinned (OpenSpec.ofChange chartMarksWrong)

/- THE SECOND FORM. 'bulk': how many values and letters a reading holds, each counted each time it is reached (what is shared counts as often as it is met; a slice's spare places count too). A statement '..UptoSaid' is the law's where the arguments, and the package variables that the reading takes, are together of bulk at most 1048576: NARROWER than '..Said'. Prove '..Said' where nothing that the law and all that it calls make is longer than what came in: it says more and counts as full. Else prove '..UptoSaid'. A law counts once. -/
mutual
def uptoBulk {H : Type} : DataW H → Nat
  | .lit (.string bytes) => bytes.length + 1
  | .lit _ => 1
  | .nil => 1
  | .ptr d => uptoBulk d + 1
  | .slice elems spare => uptoBulkAll elems + uptoBulkAll spare + 1
  | .agg parts => uptoBulkAll parts + 1
  | .iface _ d => uptoBulk d + 1
  | .map entries => uptoBulkEntries entries + 1
  | .held _ => 1
def uptoBulkAll {H : Type} : List (DataW H) → Nat
  | [] => 0
  | d :: r => uptoBulk d + uptoBulkAll r
def uptoBulkEntries {H : Type} : List (Lit × DataW H) → Nat
  | [] => 0
  | x :: r => uptoBulkEntry x + uptoBulkEntries r
def uptoBulkEntry {H : Type} : Lit × DataW H → Nat
  | (.string bytes, d) => bytes.length + uptoBulk d + 1
  | (_, d) => uptoBulk d + 1
 end
def uptoSmall : (H : Type) → List (DataW H) → Bool := fun _ ds => decide (uptoBulkAll ds ≤ 1048576)
def OpenSpec.upto (s : _root_.Go.ChangeSpec) : _root_.Go.OpenSpec := { _root_.Go.OpenSpec.ofChange s with cond := some uptoSmall }

/-- 'farandolelaw42.ChartDraw', WHERE WHAT IT READS IS OF BULK AT MOST 1048576: true; the input reads as it did. -/
def chartDrawUptoRow : OpenClaim := { program := "ytcaahhppapnbhaadoor", sum := "a735777d1ee589176565d0d5c20add3e7a634607207da232ebd9c8acf96c0cf0", func := "farandole/farandolelaw42.ChartDraw", spec := "chartDraw", inPlace := ["internal/abi.NoEscape", "internal/bytealg.MakeNoZero", "internal/bytealg.IndexByteString", "internal/bytealg.IndexString"], unfollowed := true, recurses := true, named := ["unicode/utf8.first", "unicode/utf8.acceptRanges", "internal/bytealg.MaxLen"], apart := false, laid := [("unicode/utf8.acceptRanges", laid_unicode_utf8_acceptRanges), ("unicode/utf8.first", laid_unicode_utf8_first)], narrowed := true }
def ChartDrawUptoSaid : Prop := chartDrawUptoRow.holds Tryd.pinned (OpenSpec.upto chartDrawSpec)

/-- 'farandolelaw42.ChartRead', WHERE WHAT IT READS IS OF BULK AT MOST 1048576: true; the input reads as it did. -/
def chartReadUptoRow : OpenClaim := { program := "ytcaahhppapnbhaadoor", sum := "a735777d1ee589176565d0d5c20add3e7a634607207da232ebd9c8acf96c0cf0", func := "farandole/farandolelaw42.ChartRead", spec := "chartRead", inPlace := ["internal/abi.NoEscape", "internal/bytealg.MakeNoZero", "internal/bytealg.IndexByteString", "internal/bytealg.IndexString"], unfollowed := true, recurses := true, named := ["unicode/utf8.first", "unicode/utf8.acceptRanges", "internal/bytealg.MaxLen"], apart := false, laid := [("unicode/utf8.acceptRanges", laid_unicode_utf8_acceptRanges), ("unicode/utf8.first", laid_unicode_utf8_first)], narrowed := true }
def ChartReadUptoSaid : Prop := chartReadUptoRow.holds Tryd.pinned (OpenSpec.upto chartReadSpec)

/-- 'farandolelaw42.ChartInverse', WHERE WHAT IT READS IS OF BULK AT MOST 1048576: true; the input reads as it did. -/
def chartInverseUptoRow : OpenClaim := { program := "ytcaahhppapnbhaadoor", sum := "a735777d1ee589176565d0d5c20add3e7a634607207da232ebd9c8acf96c0cf0", func := "farandole/farandolelaw42.ChartInverse", spec := "chartInverse", inPlace := ["internal/abi.NoEscape", "internal/bytealg.MakeNoZero", "internal/bytealg.IndexByteString", "internal/bytealg.IndexString"], unfollowed := true, recurses := true, named := ["unicode/utf8.first", "unicode/utf8.acceptRanges", "internal/bytealg.MaxLen"], apart := false, laid := [("unicode/utf8.acceptRanges", laid_unicode_utf8_acceptRanges), ("unicode/utf8.first", laid_unicode_utf8_first)], narrowed := true }
def ChartInverseUptoSaid : Prop := chartInverseUptoRow.holds Tryd.pinned (OpenSpec.upto chartInverseSpec)

/-- 'farandolelaw42.ChartParts', WHERE WHAT IT READS IS OF BULK AT MOST 1048576: true; the input reads as it did. -/
def chartPartsUptoRow : OpenClaim := { program := "ytcaahhppapnbhaadoor", sum := "a735777d1ee589176565d0d5c20add3e7a634607207da232ebd9c8acf96c0cf0", func := "farandole/farandolelaw42.ChartParts", spec := "chartParts", inPlace := ["internal/abi.NoEscape", "internal/bytealg.MakeNoZero", "internal/bytealg.IndexByteString", "internal/bytealg.IndexString"], unfollowed := true, recurses := true, named := ["unicode/utf8.first", "unicode/utf8.acceptRanges", "internal/bytealg.MaxLen"], apart := false, laid := [("unicode/utf8.acceptRanges", laid_unicode_utf8_acceptRanges), ("unicode/utf8.first", laid_unicode_utf8_first)], narrowed := true }
def ChartPartsUptoSaid : Prop := chartPartsUptoRow.holds Tryd.pinned (OpenSpec.upto chartPartsSpec)

/-- 'farandolelaw42.ChartExchange', WHERE WHAT IT READS IS OF BULK AT MOST 1048576: true; the input reads as it did. -/
def chartExchangeUptoRow : OpenClaim := { program := "ytcaahhppapnbhaadoor", sum := "a735777d1ee589176565d0d5c20add3e7a634607207da232ebd9c8acf96c0cf0", func := "farandole/farandolelaw42.ChartExchange", spec := "chartExchange", inPlace := ["internal/abi.NoEscape", "internal/bytealg.MakeNoZero", "internal/bytealg.IndexByteString", "internal/bytealg.IndexString"], unfollowed := true, recurses := true, named := ["unicode/utf8.first", "unicode/utf8.acceptRanges", "internal/bytealg.MaxLen"], apart := false, laid := [("unicode/utf8.acceptRanges", laid_unicode_utf8_acceptRanges), ("unicode/utf8.first", laid_unicode_utf8_first)], narrowed := true }
def ChartExchangeUptoSaid : Prop := chartExchangeUptoRow.holds Tryd.pinned (OpenSpec.upto chartExchangeSpec)

/-- 'farandolelaw42.ChartMarks', WHERE WHAT IT READS IS OF BULK AT MOST 1048576: true; the input reads as it did. -/
def chartMarksUptoRow : OpenClaim := { program := "ytcaahhppapnbhaadoor", sum := "a735777d1ee589176565d0d5c20add3e7a634607207da232ebd9c8acf96c0cf0", func := "farandole/farandolelaw42.ChartMarks", spec := "chartMarks", inPlace := ["internal/abi.NoEscape", "internal/bytealg.MakeNoZero", "internal/bytealg.IndexByteString", "internal/bytealg.IndexString"], unfollowed := true, recurses := true, named := ["unicode/utf8.first", "unicode/utf8.acceptRanges", "internal/bytealg.MaxLen"], apart := false, laid := [("unicode/utf8.acceptRanges", laid_unicode_utf8_acceptRanges), ("unicode/utf8.first", laid_unicode_utf8_first)], narrowed := true }
def ChartMarksUptoSaid : Prop := chartMarksUptoRow.holds Tryd.pinned (OpenSpec.upto chartMarksSpec)

end Rows
end Go.Proofs.YtcaahhppapnbhaaDoor
