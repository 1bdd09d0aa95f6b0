/-
  NARROWER THAN 'FOR EVERY INPUT', by the rows' own cells (each row's printed sentence says how): ProjectMachines: laid · ProjectMinimal: laid · ProjectChoices: laid · ProjectCanonical: laid · ProjectHistories: laid · ProjectNumbers: laid · ProjectAll: laid.
  DERIVED. THE GIVEN ROWS OF THIS SEAT. 7 by the template 'for every input the law returns true; each argument reads behind the call as it read before'; 0 by the template 'total and deterministic' (their statements: YtfdhgcladnbdeaaGreatDoorTotals.lean).
  GIVEN WITH THE SEED: the statements are not yours to turn. If you find one false, say at which input.
  Laid BY PROGRAM, IN A SANDBOX (cutbox-rows.mjs): the forced cells as the released guide's own fill.sh prints them over the translation fb1becc82feb87de… (all of the seat's roots in one cut). By AI agents, Wed Nov 11 2026. No macro, syntax, notation, axiom, sorry.
-/
import Derived.Test.YtfdhgcladnbdeaaGreatDoorChecked
import GoSem.PinnedTables
import GoSem.Claim
import GoSem.ClaimJoined
import GoSem.ClaimMapViews
import Derived.JoinedTies
import Derived.KernelRfl
namespace Go.Proofs.YtfdhgcladnbdeaaGreatDoor
/- THE CELL 'sum', in the pinned program and in every row, IS THE sha256 OF THE DUMP (.gsa) THAT YtfdhgcladnbdeaaGreatDoorProg.lean LOADS. Nothing in Lean hashes anything: it is a label: what it is worth is what the hold of that sum in a sandbox is worth. -/
noncomputable def Tryz.pinned : Pinned := { name := "ytfdhgcladnbdeaagreatdoor", sum := "fb1becc82feb87dee900c3b7f0f1fb897a0241ad01c8edba8b9a1b98080e370b", checked := Tryz.checked }
namespace Rows
def none {H : Type} : Left H := { results := [], args := [] }

/- WHAT THE LISTED PACKAGE-LEVEL VARIABLES READ AS WHEN THE CALL BEGINS. Each datum BY PROGRAM (the guide's laid-datum.mjs) off the statement by which the dump's own 'gosem.cut.vars' lays the variable. In a bare row this is a premise. The card (YtfdhgcladnbdeaaGreatDoorCards.lean) ties it to the program's text. -/
def laid_math_bits_deBruijn64tab {H : Type} : DataW H := .agg [.lit (.int .u8 0), .lit (.int .u8 1), .lit (.int .u8 56), .lit (.int .u8 2), .lit (.int .u8 57), .lit (.int .u8 49), .lit (.int .u8 28), .lit (.int .u8 3), .lit (.int .u8 61), .lit (.int .u8 58), .lit (.int .u8 42), .lit (.int .u8 50), .lit (.int .u8 38), .lit (.int .u8 29), .lit (.int .u8 17), .lit (.int .u8 4), .lit (.int .u8 62), .lit (.int .u8 47), .lit (.int .u8 59), .lit (.int .u8 36), .lit (.int .u8 45), .lit (.int .u8 43), .lit (.int .u8 51), .lit (.int .u8 22), .lit (.int .u8 53), .lit (.int .u8 39), .lit (.int .u8 33), .lit (.int .u8 30), .lit (.int .u8 24), .lit (.int .u8 18), .lit (.int .u8 12), .lit (.int .u8 5), .lit (.int .u8 63), .lit (.int .u8 55), .lit (.int .u8 48), .lit (.int .u8 27), .lit (.int .u8 60), .lit (.int .u8 41), .lit (.int .u8 37), .lit (.int .u8 16), .lit (.int .u8 46), .lit (.int .u8 35), .lit (.int .u8 44), .lit (.int .u8 21), .lit (.int .u8 52), .lit (.int .u8 32), .lit (.int .u8 23), .lit (.int .u8 11), .lit (.int .u8 54), .lit (.int .u8 26), .lit (.int .u8 40), .lit (.int .u8 15), .lit (.int .u8 34), .lit (.int .u8 20), .lit (.int .u8 31), .lit (.int .u8 10), .lit (.int .u8 25), .lit (.int .u8 14), .lit (.int .u8 19), .lit (.int .u8 9), .lit (.int .u8 13), .lit (.int .u8 8), .lit (.int .u8 7), .lit (.int .u8 6)]
def laid_unicode_utf8_acceptRanges {H : Type} : DataW H := .agg [.agg [.lit (.int .u8 128), .lit (.int .u8 191)], .agg [.lit (.int .u8 160), .lit (.int .u8 191)], .agg [.lit (.int .u8 128), .lit (.int .u8 159)], .agg [.lit (.int .u8 144), .lit (.int .u8 191)], .agg [.lit (.int .u8 128), .lit (.int .u8 143)], .agg [.lit (.int .u8 0), .lit (.int .u8 0)], .agg [.lit (.int .u8 0), .lit (.int .u8 0)], .agg [.lit (.int .u8 0), .lit (.int .u8 0)], .agg [.lit (.int .u8 0), .lit (.int .u8 0)], .agg [.lit (.int .u8 0), .lit (.int .u8 0)], .agg [.lit (.int .u8 0), .lit (.int .u8 0)], .agg [.lit (.int .u8 0), .lit (.int .u8 0)], .agg [.lit (.int .u8 0), .lit (.int .u8 0)], .agg [.lit (.int .u8 0), .lit (.int .u8 0)], .agg [.lit (.int .u8 0), .lit (.int .u8 0)], .agg [.lit (.int .u8 0), .lit (.int .u8 0)]]
/-- One of Go's own tables, pinned by name: the form's constant. -/
def laid_unicode_utf8_first : DataW Unit := Go.Pinned.utf8First

/-- 'farandolelaw25.ProjectMachines': WHATEVER THE INPUT: true; the input reads as it did. -/
def projectMachinesSpec : ChangeSpec := { name := "projectMachines", fn := fun _ => fun
  | [d1, d2] => { results := [.lit (.bool true)], args := [d1, d2] }
  | _ => none }
def projectMachinesRow : OpenClaim := { program := "ytfdhgcladnbdeaagreatdoor", sum := "fb1becc82feb87dee900c3b7f0f1fb897a0241ad01c8edba8b9a1b98080e370b", func := "farandole/farandolelaw25.ProjectMachines", spec := "projectMachines", inPlace := ["internal/bytealg.CountString", "internal/bytealg.IndexByteString", "internal/bytealg.IndexString"], unfollowed := true, recurses := true, named := ["unicode/utf8.first", "unicode/utf8.acceptRanges", "internal/bytealg.MaxLen", "math/bits.deBruijn64tab"], plainKeys := false, apart := false, laid := [("math/bits.deBruijn64tab", laid_math_bits_deBruijn64tab), ("unicode/utf8.acceptRanges", laid_unicode_utf8_acceptRanges), ("unicode/utf8.first", laid_unicode_utf8_first)] }
def ProjectMachinesSaid : Prop := projectMachinesRow.holds Tryz.pinned (OpenSpec.ofChange projectMachinesSpec)

/-- ITS FALSE NEIGHBOUR: 'it returns false'. Refute it at one input. -/
def projectMachinesWrong : ChangeSpec := { name := "projectMachines", fn := fun _ => fun
  | [d1, d2] => { results := [.lit (.bool false)], args := [d1, d2] }
  | _ => none }
def ProjectMachinesWrongFalsely : Prop := projectMachinesRow.holds Tryz.pinned (OpenSpec.ofChange projectMachinesWrong)

/-- 'farandolelaw25.ProjectMinimal': WHATEVER THE INPUT: true; the input reads as it did. -/
def projectMinimalSpec : ChangeSpec := { name := "projectMinimal", fn := fun _ => fun
  | [d1, d2] => { results := [.lit (.bool true)], args := [d1, d2] }
  | _ => none }
def projectMinimalRow : OpenClaim := { program := "ytfdhgcladnbdeaagreatdoor", sum := "fb1becc82feb87dee900c3b7f0f1fb897a0241ad01c8edba8b9a1b98080e370b", func := "farandole/farandolelaw25.ProjectMinimal", spec := "projectMinimal", inPlace := ["internal/bytealg.CountString", "internal/bytealg.IndexByteString", "internal/bytealg.IndexString"], unfollowed := true, recurses := true, named := ["unicode/utf8.first", "unicode/utf8.acceptRanges", "internal/bytealg.MaxLen", "math/bits.deBruijn64tab"], plainKeys := false, apart := false, laid := [("math/bits.deBruijn64tab", laid_math_bits_deBruijn64tab), ("unicode/utf8.acceptRanges", laid_unicode_utf8_acceptRanges), ("unicode/utf8.first", laid_unicode_utf8_first)] }
def ProjectMinimalSaid : Prop := projectMinimalRow.holds Tryz.pinned (OpenSpec.ofChange projectMinimalSpec)

/-- ITS FALSE NEIGHBOUR: 'it returns false'. Refute it at one input. -/
def projectMinimalWrong : ChangeSpec := { name := "projectMinimal", fn := fun _ => fun
  | [d1, d2] => { results := [.lit (.bool false)], args := [d1, d2] }
  | _ => none }
def ProjectMinimalWrongFalsely : Prop := projectMinimalRow.holds Tryz.pinned (OpenSpec.ofChange projectMinimalWrong)

/-- 'farandolelaw25.ProjectChoices': WHATEVER THE INPUT: true; the input reads as it did. -/
def projectChoicesSpec : ChangeSpec := { name := "projectChoices", fn := fun _ => fun
  | [d1, d2] => { results := [.lit (.bool true)], args := [d1, d2] }
  | _ => none }
def projectChoicesRow : OpenClaim := { program := "ytfdhgcladnbdeaagreatdoor", sum := "fb1becc82feb87dee900c3b7f0f1fb897a0241ad01c8edba8b9a1b98080e370b", func := "farandole/farandolelaw25.ProjectChoices", spec := "projectChoices", inPlace := ["internal/bytealg.CountString", "internal/bytealg.IndexByteString", "internal/bytealg.IndexString"], unfollowed := true, recurses := true, named := ["unicode/utf8.first", "unicode/utf8.acceptRanges", "internal/bytealg.MaxLen", "math/bits.deBruijn64tab"], plainKeys := false, apart := false, laid := [("math/bits.deBruijn64tab", laid_math_bits_deBruijn64tab), ("unicode/utf8.acceptRanges", laid_unicode_utf8_acceptRanges), ("unicode/utf8.first", laid_unicode_utf8_first)] }
def ProjectChoicesSaid : Prop := projectChoicesRow.holds Tryz.pinned (OpenSpec.ofChange projectChoicesSpec)

/-- ITS FALSE NEIGHBOUR: 'it returns false'. Refute it at one input. -/
def projectChoicesWrong : ChangeSpec := { name := "projectChoices", fn := fun _ => fun
  | [d1, d2] => { results := [.lit (.bool false)], args := [d1, d2] }
  | _ => none }
def ProjectChoicesWrongFalsely : Prop := projectChoicesRow.holds Tryz.pinned (OpenSpec.ofChange projectChoicesWrong)

/-- 'farandolelaw25.ProjectCanonical': WHATEVER THE INPUT: true; the input reads as it did. -/
def projectCanonicalSpec : ChangeSpec := { name := "projectCanonical", fn := fun _ => fun
  | [d1, d2, d3] => { results := [.lit (.bool true)], args := [d1, d2, d3] }
  | _ => none }
def projectCanonicalRow : OpenClaim := { program := "ytfdhgcladnbdeaagreatdoor", sum := "fb1becc82feb87dee900c3b7f0f1fb897a0241ad01c8edba8b9a1b98080e370b", func := "farandole/farandolelaw25.ProjectCanonical", spec := "projectCanonical", inPlace := ["internal/bytealg.CountString", "internal/bytealg.IndexByteString", "internal/bytealg.IndexString"], unfollowed := true, recurses := true, named := ["unicode/utf8.first", "unicode/utf8.acceptRanges", "internal/bytealg.MaxLen", "math/bits.deBruijn64tab"], plainKeys := false, apart := false, laid := [("math/bits.deBruijn64tab", laid_math_bits_deBruijn64tab), ("unicode/utf8.acceptRanges", laid_unicode_utf8_acceptRanges), ("unicode/utf8.first", laid_unicode_utf8_first)] }
def ProjectCanonicalSaid : Prop := projectCanonicalRow.holds Tryz.pinned (OpenSpec.ofChange projectCanonicalSpec)

/-- ITS FALSE NEIGHBOUR: 'it returns false'. Refute it at one input. -/
def projectCanonicalWrong : ChangeSpec := { name := "projectCanonical", fn := fun _ => fun
  | [d1, d2, d3] => { results := [.lit (.bool false)], args := [d1, d2, d3] }
  | _ => none }
def ProjectCanonicalWrongFalsely : Prop := projectCanonicalRow.holds Tryz.pinned (OpenSpec.ofChange projectCanonicalWrong)

/-- 'farandolelaw25.ProjectHistories': WHATEVER THE INPUT: true; the input reads as it did. -/
def projectHistoriesSpec : ChangeSpec := { name := "projectHistories", fn := fun _ => fun
  | [d1, d2, d3] => { results := [.lit (.bool true)], args := [d1, d2, d3] }
  | _ => none }
def projectHistoriesRow : OpenClaim := { program := "ytfdhgcladnbdeaagreatdoor", sum := "fb1becc82feb87dee900c3b7f0f1fb897a0241ad01c8edba8b9a1b98080e370b", func := "farandole/farandolelaw25.ProjectHistories", spec := "projectHistories", inPlace := ["internal/bytealg.CountString", "internal/bytealg.IndexByteString", "internal/bytealg.IndexString"], unfollowed := true, recurses := true, named := ["unicode/utf8.first", "unicode/utf8.acceptRanges", "internal/bytealg.MaxLen", "math/bits.deBruijn64tab"], plainKeys := false, apart := false, laid := [("math/bits.deBruijn64tab", laid_math_bits_deBruijn64tab), ("unicode/utf8.acceptRanges", laid_unicode_utf8_acceptRanges), ("unicode/utf8.first", laid_unicode_utf8_first)] }
def ProjectHistoriesSaid : Prop := projectHistoriesRow.holds Tryz.pinned (OpenSpec.ofChange projectHistoriesSpec)

/-- ITS FALSE NEIGHBOUR: 'it returns false'. Refute it at one input. -/
def projectHistoriesWrong : ChangeSpec := { name := "projectHistories", fn := fun _ => fun
  | [d1, d2, d3] => { results := [.lit (.bool false)], args := [d1, d2, d3] }
  | _ => none }
def ProjectHistoriesWrongFalsely : Prop := projectHistoriesRow.holds Tryz.pinned (OpenSpec.ofChange projectHistoriesWrong)

/-- 'farandolelaw25.ProjectNumbers': WHATEVER THE INPUT: true; the input reads as it did. -/
def projectNumbersSpec : ChangeSpec := { name := "projectNumbers", fn := fun _ => fun
  | [d1, d2] => { results := [.lit (.bool true)], args := [d1, d2] }
  | _ => none }
def projectNumbersRow : OpenClaim := { program := "ytfdhgcladnbdeaagreatdoor", sum := "fb1becc82feb87dee900c3b7f0f1fb897a0241ad01c8edba8b9a1b98080e370b", func := "farandole/farandolelaw25.ProjectNumbers", spec := "projectNumbers", inPlace := ["internal/bytealg.CountString", "internal/bytealg.IndexByteString", "internal/bytealg.IndexString"], unfollowed := true, recurses := true, named := ["unicode/utf8.first", "unicode/utf8.acceptRanges", "internal/bytealg.MaxLen", "math/bits.deBruijn64tab"], plainKeys := false, apart := false, laid := [("math/bits.deBruijn64tab", laid_math_bits_deBruijn64tab), ("unicode/utf8.acceptRanges", laid_unicode_utf8_acceptRanges), ("unicode/utf8.first", laid_unicode_utf8_first)] }
def ProjectNumbersSaid : Prop := projectNumbersRow.holds Tryz.pinned (OpenSpec.ofChange projectNumbersSpec)

/-- ITS FALSE NEIGHBOUR: 'it returns false'. Refute it at one input. -/
def projectNumbersWrong : ChangeSpec := { name := "projectNumbers", fn := fun _ => fun
  | [d1, d2] => { results := [.lit (.bool false)], args := [d1, d2] }
  | _ => none }
def ProjectNumbersWrongFalsely : Prop := projectNumbersRow.holds Tryz.pinned (OpenSpec.ofChange projectNumbersWrong)

/-- 'farandolelaw25.ProjectAll': WHATEVER THE INPUT: true; the input reads as it did. -/
def projectAllSpec : ChangeSpec := { name := "projectAll", fn := fun _ => fun
  | [d] => { results := [.lit (.bool true)], args := [d] }
  | _ => none }
def projectAllRow : OpenClaim := { program := "ytfdhgcladnbdeaagreatdoor", sum := "fb1becc82feb87dee900c3b7f0f1fb897a0241ad01c8edba8b9a1b98080e370b", func := "farandole/farandolelaw25.ProjectAll", spec := "projectAll", inPlace := ["internal/bytealg.CountString", "internal/bytealg.IndexByteString", "internal/bytealg.IndexString"], unfollowed := true, recurses := true, named := ["unicode/utf8.first", "unicode/utf8.acceptRanges", "internal/bytealg.MaxLen", "math/bits.deBruijn64tab"], plainKeys := false, apart := false, laid := [("math/bits.deBruijn64tab", laid_math_bits_deBruijn64tab), ("unicode/utf8.acceptRanges", laid_unicode_utf8_acceptRanges), ("unicode/utf8.first", laid_unicode_utf8_first)] }
def ProjectAllSaid : Prop := projectAllRow.holds Tryz.pinned (OpenSpec.ofChange projectAllSpec)

/-- ITS FALSE NEIGHBOUR: 'it returns false'. Refute it at one input. -/
def projectAllWrong : ChangeSpec := { name := "projectAll", fn := fun _ => fun
  | [d] => { results := [.lit (.bool false)], args := [d] }
  | _ => none }
def ProjectAllWrongFalsely : Prop := projectAllRow.holds Tryz.pinned (OpenSpec.ofChange projectAllWrong)

/- THE SECOND FORM. 'bulk': how many values and letters a reading holds, each counted each time it is reached (what is shared counts as often as it is met; a slice's spare places count too). A statement '..UptoSaid' is the law's where the arguments, and the package variables that the reading takes, are together of bulk at most 1048576: NARROWER than '..Said'. Prove '..Said' where nothing that the law and all that it calls make is longer than what came in: it says more and counts as full. Else prove '..UptoSaid'. A law counts once. -/
mutual
def uptoBulk {H : Type} : DataW H → Nat
  | .lit (.string bytes) => bytes.length + 1
  | .lit _ => 1
  | .nil => 1
  | .ptr d => uptoBulk d + 1
  | .slice elems spare => uptoBulkAll elems + uptoBulkAll spare + 1
  | .agg parts => uptoBulkAll parts + 1
  | .iface _ d => uptoBulk d + 1
  | .map entries => uptoBulkEntries entries + 1
  | .held _ => 1
def uptoBulkAll {H : Type} : List (DataW H) → Nat
  | [] => 0
  | d :: r => uptoBulk d + uptoBulkAll r
def uptoBulkEntries {H : Type} : List (Lit × DataW H) → Nat
  | [] => 0
  | x :: r => uptoBulkEntry x + uptoBulkEntries r
def uptoBulkEntry {H : Type} : Lit × DataW H → Nat
  | (.string bytes, d) => bytes.length + uptoBulk d + 1
  | (_, d) => uptoBulk d + 1
 end
def uptoSmall : (H : Type) → List (DataW H) → Bool := fun _ ds => decide (uptoBulkAll ds ≤ 1048576)
def OpenSpec.upto (s : _root_.Go.ChangeSpec) : _root_.Go.OpenSpec := { _root_.Go.OpenSpec.ofChange s with cond := some uptoSmall }

/-- 'farandolelaw25.ProjectMachines', WHERE WHAT IT READS IS OF BULK AT MOST 1048576: true; the input reads as it did. -/
def projectMachinesUptoRow : OpenClaim := { program := "ytfdhgcladnbdeaagreatdoor", sum := "fb1becc82feb87dee900c3b7f0f1fb897a0241ad01c8edba8b9a1b98080e370b", func := "farandole/farandolelaw25.ProjectMachines", spec := "projectMachines", inPlace := ["internal/bytealg.CountString", "internal/bytealg.IndexByteString", "internal/bytealg.IndexString"], unfollowed := true, recurses := true, named := ["unicode/utf8.first", "unicode/utf8.acceptRanges", "internal/bytealg.MaxLen", "math/bits.deBruijn64tab"], plainKeys := false, apart := false, laid := [("math/bits.deBruijn64tab", laid_math_bits_deBruijn64tab), ("unicode/utf8.acceptRanges", laid_unicode_utf8_acceptRanges), ("unicode/utf8.first", laid_unicode_utf8_first)], narrowed := true }
def ProjectMachinesUptoSaid : Prop := projectMachinesUptoRow.holds Tryz.pinned (OpenSpec.upto projectMachinesSpec)

/-- 'farandolelaw25.ProjectMinimal', WHERE WHAT IT READS IS OF BULK AT MOST 1048576: true; the input reads as it did. -/
def projectMinimalUptoRow : OpenClaim := { program := "ytfdhgcladnbdeaagreatdoor", sum := "fb1becc82feb87dee900c3b7f0f1fb897a0241ad01c8edba8b9a1b98080e370b", func := "farandole/farandolelaw25.ProjectMinimal", spec := "projectMinimal", inPlace := ["internal/bytealg.CountString", "internal/bytealg.IndexByteString", "internal/bytealg.IndexString"], unfollowed := true, recurses := true, named := ["unicode/utf8.first", "unicode/utf8.acceptRanges", "internal/bytealg.MaxLen", "math/bits.deBruijn64tab"], plainKeys := false, apart := false, laid := [("math/bits.deBruijn64tab", laid_math_bits_deBruijn64tab), ("unicode/utf8.acceptRanges", laid_unicode_utf8_acceptRanges), ("unicode/utf8.first", laid_unicode_utf8_first)], narrowed := true }
def ProjectMinimalUptoSaid : Prop := projectMinimalUptoRow.holds Tryz.pinned (OpenSpec.upto projectMinimalSpec)

/-- 'farandolelaw25.ProjectChoices', WHERE WHAT IT READS IS OF BULK AT MOST 1048576: true; the input reads as it did. -/
def projectChoicesUptoRow : OpenClaim := { program := "ytfdhgcladnbdeaagreatdoor", sum := "fb1becc82feb87dee900c3b7f0f1fb897a0241ad01c8edba8b9a1b98080e370b", func := "farandole/farandolelaw25.ProjectChoices", spec := "projectChoices", inPlace := ["internal/bytealg.CountString", "internal/bytealg.IndexByteString", "internal/bytealg.IndexString"], unfollowed := true, recurses := true, named := ["unicode/utf8.first", "unicode/utf8.acceptRanges", "internal/bytealg.MaxLen", "math/bits.deBruijn64tab"], plainKeys := false, apart := false, laid := [("math/bits.deBruijn64tab", laid_math_bits_deBruijn64tab), ("unicode/utf8.acceptRanges", laid_unicode_utf8_acceptRanges), ("unicode/utf8.first", laid_unicode_utf8_first)], narrowed := true }
def ProjectChoicesUptoSaid : Prop := projectChoicesUptoRow.holds Tryz.pinned (OpenSpec.upto projectChoicesSpec)

/-- 'farandolelaw25.ProjectCanonical', WHERE WHAT IT READS IS OF BULK AT MOST 1048576: true; the input reads as it did. -/
def projectCanonicalUptoRow : OpenClaim := { program := "ytfdhgcladnbdeaagreatdoor", sum := "fb1becc82feb87dee900c3b7f0f1fb897a0241ad01c8edba8b9a1b98080e370b", func := "farandole/farandolelaw25.ProjectCanonical", spec := "projectCanonical", inPlace := ["internal/bytealg.CountString", "internal/bytealg.IndexByteString", "internal/bytealg.IndexString"], unfollowed := true, recurses := true, named := ["unicode/utf8.first", "unicode/utf8.acceptRanges", "internal/bytealg.MaxLen", "math/bits.deBruijn64tab"], plainKeys := false, apart := false, laid := [("math/bits.deBruijn64tab", laid_math_bits_deBruijn64tab), ("unicode/utf8.acceptRanges", laid_unicode_utf8_acceptRanges), ("unicode/utf8.first", laid_unicode_utf8_first)], narrowed := true }
def ProjectCanonicalUptoSaid : Prop := projectCanonicalUptoRow.holds Tryz.pinned (OpenSpec.upto projectCanonicalSpec)

/-- 'farandolelaw25.ProjectHistories', WHERE WHAT IT READS IS OF BULK AT MOST 1048576: true; the input reads as it did. -/
def projectHistoriesUptoRow : OpenClaim := { program := "ytfdhgcladnbdeaagreatdoor", sum := "fb1becc82feb87dee900c3b7f0f1fb897a0241ad01c8edba8b9a1b98080e370b", func := "farandole/farandolelaw25.ProjectHistories", spec := "projectHistories", inPlace := ["internal/bytealg.CountString", "internal/bytealg.IndexByteString", "internal/bytealg.IndexString"], unfollowed := true, recurses := true, named := ["unicode/utf8.first", "unicode/utf8.acceptRanges", "internal/bytealg.MaxLen", "math/bits.deBruijn64tab"], plainKeys := false, apart := false, laid := [("math/bits.deBruijn64tab", laid_math_bits_deBruijn64tab), ("unicode/utf8.acceptRanges", laid_unicode_utf8_acceptRanges), ("unicode/utf8.first", laid_unicode_utf8_first)], narrowed := true }
def ProjectHistoriesUptoSaid : Prop := projectHistoriesUptoRow.holds Tryz.pinned (OpenSpec.upto projectHistoriesSpec)

/-- 'farandolelaw25.ProjectNumbers', WHERE WHAT IT READS IS OF BULK AT MOST 1048576: true; the input reads as it did. -/
def projectNumbersUptoRow : OpenClaim := { program := "ytfdhgcladnbdeaagreatdoor", sum := "fb1becc82feb87dee900c3b7f0f1fb897a0241ad01c8edba8b9a1b98080e370b", func := "farandole/farandolelaw25.ProjectNumbers", spec := "projectNumbers", inPlace := ["internal/bytealg.CountString", "internal/bytealg.IndexByteString", "internal/bytealg.IndexString"], unfollowed := true, recurses := true, named := ["unicode/utf8.first", "unicode/utf8.acceptRanges", "internal/bytealg.MaxLen", "math/bits.deBruijn64tab"], plainKeys := false, apart := false, laid := [("math/bits.deBruijn64tab", laid_math_bits_deBruijn64tab), ("unicode/utf8.acceptRanges", laid_unicode_utf8_acceptRanges), ("unicode/utf8.first", laid_unicode_utf8_first)], narrowed := true }
def ProjectNumbersUptoSaid : Prop := projectNumbersUptoRow.holds Tryz.pinned (OpenSpec.upto projectNumbersSpec)

/-- 'farandolelaw25.ProjectAll', WHERE WHAT IT READS IS OF BULK AT MOST 1048576: true; the input reads as it did. -/
def projectAllUptoRow : OpenClaim := { program := "ytfdhgcladnbdeaagreatdoor", sum := "fb1becc82feb87dee900c3b7f0f1fb897a0241ad01c8edba8b9a1b98080e370b", func := "farandole/farandolelaw25.ProjectAll", spec := "projectAll", inPlace := ["internal/bytealg.CountString", "internal/bytealg.IndexByteString", "internal/bytealg.IndexString"], unfollowed := true, recurses := true, named := ["unicode/utf8.first", "unicode/utf8.acceptRanges", "internal/bytealg.MaxLen", "math/bits.deBruijn64tab"], plainKeys := false, apart := false, laid := [("math/bits.deBruijn64tab", laid_math_bits_deBruijn64tab), ("unicode/utf8.acceptRanges", laid_unicode_utf8_acceptRanges), ("unicode/utf8.first", laid_unicode_utf8_first)], narrowed := true }
def ProjectAllUptoSaid : Prop := projectAllUptoRow.holds Tryz.pinned (OpenSpec.upto projectAllSpec)

end Rows
end Go.Proofs.YtfdhgcladnbdeaaGreatDoor
