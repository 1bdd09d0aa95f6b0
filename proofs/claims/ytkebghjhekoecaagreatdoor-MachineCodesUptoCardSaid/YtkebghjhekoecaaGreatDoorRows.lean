/-
  NARROWER THAN 'FOR EVERY INPUT', by the rows' own cells (each row's printed sentence says how): MachineRuns: laid · MachineSteps: laid · MachineMoves: laid · MachineIncludes: laid · MachineLeast: laid · MachineProjected: laid · MachineForms: laid · MachineMinimal: laid · MachineCodes: laid.
  DERIVED. THE GIVEN ROWS OF THIS SEAT. 9 by the template 'for every input the law returns true; each argument reads behind the call as it read before'; 0 by the template 'total and deterministic' (their statements: YtkebghjhekoecaaGreatDoorTotals.lean).
  GIVEN WITH THE SEED: the statements are not yours to turn. If you find one false, say at which input.
  Laid BY PROGRAM, IN A SANDBOX (cutbox-rows.mjs): the forced cells as the released guide's own fill.sh prints them over the translation 8c5151bd122c46f4… (all of the seat's roots in one cut). By AI agents, Wed Nov 11 2026. No macro, syntax, notation, axiom, sorry.
-/
import Derived.Test.YtkebghjhekoecaaGreatDoorChecked
import GoSem.PinnedTables
import GoSem.Claim
import GoSem.ClaimJoined
import GoSem.ClaimMapViews
import Derived.JoinedTies
import Derived.KernelRfl
namespace Go.Proofs.YtkebghjhekoecaaGreatDoor
/- THE CELL 'sum', in the pinned program and in every row, IS THE sha256 OF THE DUMP (.gsa) THAT YtkebghjhekoecaaGreatDoorProg.lean LOADS. Nothing in Lean hashes anything: it is a label: what it is worth is what the hold of that sum in a sandbox is worth. -/
noncomputable def Tryz.pinned : Pinned := { name := "ytkebghjhekoecaagreatdoor", sum := "8c5151bd122c46f45f1dbca1a3088495ca6e7daf1f897b553d6eec02aacaddcf", checked := Tryz.checked }
namespace Rows
def none {H : Type} : Left H := { results := [], args := [] }

/- WHAT THE LISTED PACKAGE-LEVEL VARIABLES READ AS WHEN THE CALL BEGINS. Each datum BY PROGRAM (the guide's laid-datum.mjs) off the statement by which the dump's own 'gosem.cut.vars' lays the variable. In a bare row this is a premise. The card (YtkebghjhekoecaaGreatDoorCards.lean) ties it to the program's text. -/
def laid_math_bits_deBruijn64tab {H : Type} : DataW H := .agg [.lit (.int .u8 0), .lit (.int .u8 1), .lit (.int .u8 56), .lit (.int .u8 2), .lit (.int .u8 57), .lit (.int .u8 49), .lit (.int .u8 28), .lit (.int .u8 3), .lit (.int .u8 61), .lit (.int .u8 58), .lit (.int .u8 42), .lit (.int .u8 50), .lit (.int .u8 38), .lit (.int .u8 29), .lit (.int .u8 17), .lit (.int .u8 4), .lit (.int .u8 62), .lit (.int .u8 47), .lit (.int .u8 59), .lit (.int .u8 36), .lit (.int .u8 45), .lit (.int .u8 43), .lit (.int .u8 51), .lit (.int .u8 22), .lit (.int .u8 53), .lit (.int .u8 39), .lit (.int .u8 33), .lit (.int .u8 30), .lit (.int .u8 24), .lit (.int .u8 18), .lit (.int .u8 12), .lit (.int .u8 5), .lit (.int .u8 63), .lit (.int .u8 55), .lit (.int .u8 48), .lit (.int .u8 27), .lit (.int .u8 60), .lit (.int .u8 41), .lit (.int .u8 37), .lit (.int .u8 16), .lit (.int .u8 46), .lit (.int .u8 35), .lit (.int .u8 44), .lit (.int .u8 21), .lit (.int .u8 52), .lit (.int .u8 32), .lit (.int .u8 23), .lit (.int .u8 11), .lit (.int .u8 54), .lit (.int .u8 26), .lit (.int .u8 40), .lit (.int .u8 15), .lit (.int .u8 34), .lit (.int .u8 20), .lit (.int .u8 31), .lit (.int .u8 10), .lit (.int .u8 25), .lit (.int .u8 14), .lit (.int .u8 19), .lit (.int .u8 9), .lit (.int .u8 13), .lit (.int .u8 8), .lit (.int .u8 7), .lit (.int .u8 6)]
def laid_unicode_utf8_acceptRanges {H : Type} : DataW H := .agg [.agg [.lit (.int .u8 128), .lit (.int .u8 191)], .agg [.lit (.int .u8 160), .lit (.int .u8 191)], .agg [.lit (.int .u8 128), .lit (.int .u8 159)], .agg [.lit (.int .u8 144), .lit (.int .u8 191)], .agg [.lit (.int .u8 128), .lit (.int .u8 143)], .agg [.lit (.int .u8 0), .lit (.int .u8 0)], .agg [.lit (.int .u8 0), .lit (.int .u8 0)], .agg [.lit (.int .u8 0), .lit (.int .u8 0)], .agg [.lit (.int .u8 0), .lit (.int .u8 0)], .agg [.lit (.int .u8 0), .lit (.int .u8 0)], .agg [.lit (.int .u8 0), .lit (.int .u8 0)], .agg [.lit (.int .u8 0), .lit (.int .u8 0)], .agg [.lit (.int .u8 0), .lit (.int .u8 0)], .agg [.lit (.int .u8 0), .lit (.int .u8 0)], .agg [.lit (.int .u8 0), .lit (.int .u8 0)], .agg [.lit (.int .u8 0), .lit (.int .u8 0)]]
/-- One of Go's own tables, pinned by name: the form's constant. -/
def laid_unicode_utf8_first : DataW Unit := Go.Pinned.utf8First

/-- 'farandolelaw26.MachineRuns': WHATEVER THE INPUT: true; the input reads as it did. -/
def machineRunsSpec : ChangeSpec := { name := "machineRuns", fn := fun _ => fun
  | [d1, d2, d3] => { results := [.lit (.bool true)], args := [d1, d2, d3] }
  | _ => none }
def machineRunsRow : OpenClaim := { program := "ytkebghjhekoecaagreatdoor", sum := "8c5151bd122c46f45f1dbca1a3088495ca6e7daf1f897b553d6eec02aacaddcf", func := "farandole/farandolelaw26.MachineRuns", spec := "machineRuns", inPlace := ["internal/bytealg.CountString", "internal/bytealg.IndexByteString", "internal/bytealg.IndexString"], unfollowed := true, recurses := true, named := ["unicode/utf8.first", "unicode/utf8.acceptRanges", "internal/bytealg.MaxLen", "math/bits.deBruijn64tab"], plainKeys := false, apart := false, laid := [("math/bits.deBruijn64tab", laid_math_bits_deBruijn64tab), ("unicode/utf8.acceptRanges", laid_unicode_utf8_acceptRanges), ("unicode/utf8.first", laid_unicode_utf8_first)] }
def MachineRunsSaid : Prop := machineRunsRow.holds Tryz.pinned (OpenSpec.ofChange machineRunsSpec)

/-- ITS FALSE NEIGHBOUR: 'it returns false'. Refute it at one input. -/
def machineRunsWrong : ChangeSpec := { name := "machineRuns", fn := fun _ => fun
  | [d1, d2, d3] => { results := [.lit (.bool false)], args := [d1, d2, d3] }
  | _ => none }
def MachineRunsWrongFalsely : Prop := machineRunsRow.holds Tryz.pinned (OpenSpec.ofChange machineRunsWrong)

/-- 'farandolelaw26.MachineSteps': WHATEVER THE INPUT: true; the input reads as it did. -/
def machineStepsSpec : ChangeSpec := { name := "machineSteps", fn := fun _ => fun
  | [d1, d2] => { results := [.lit (.bool true)], args := [d1, d2] }
  | _ => none }
def machineStepsRow : OpenClaim := { program := "ytkebghjhekoecaagreatdoor", sum := "8c5151bd122c46f45f1dbca1a3088495ca6e7daf1f897b553d6eec02aacaddcf", func := "farandole/farandolelaw26.MachineSteps", spec := "machineSteps", inPlace := ["internal/bytealg.CountString", "internal/bytealg.IndexByteString", "internal/bytealg.IndexString"], unfollowed := true, recurses := true, named := ["unicode/utf8.first", "unicode/utf8.acceptRanges", "internal/bytealg.MaxLen", "math/bits.deBruijn64tab"], plainKeys := false, apart := false, laid := [("math/bits.deBruijn64tab", laid_math_bits_deBruijn64tab), ("unicode/utf8.acceptRanges", laid_unicode_utf8_acceptRanges), ("unicode/utf8.first", laid_unicode_utf8_first)] }
def MachineStepsSaid : Prop := machineStepsRow.holds Tryz.pinned (OpenSpec.ofChange machineStepsSpec)

/-- ITS FALSE NEIGHBOUR: 'it returns false'. Refute it at one input. -/
def machineStepsWrong : ChangeSpec := { name := "machineSteps", fn := fun _ => fun
  | [d1, d2] => { results := [.lit (.bool false)], args := [d1, d2] }
  | _ => none }
def MachineStepsWrongFalsely : Prop := machineStepsRow.holds Tryz.pinned (OpenSpec.ofChange machineStepsWrong)

/-- 'farandolelaw26.MachineMoves': WHATEVER THE INPUT: true; the input reads as it did. -/
def machineMovesSpec : ChangeSpec := { name := "machineMoves", fn := fun _ => fun
  | [d1, d2] => { results := [.lit (.bool true)], args := [d1, d2] }
  | _ => none }
def machineMovesRow : OpenClaim := { program := "ytkebghjhekoecaagreatdoor", sum := "8c5151bd122c46f45f1dbca1a3088495ca6e7daf1f897b553d6eec02aacaddcf", func := "farandole/farandolelaw26.MachineMoves", spec := "machineMoves", inPlace := ["internal/bytealg.CountString", "internal/bytealg.IndexByteString", "internal/bytealg.IndexString"], unfollowed := true, recurses := true, named := ["unicode/utf8.first", "unicode/utf8.acceptRanges", "internal/bytealg.MaxLen", "math/bits.deBruijn64tab"], plainKeys := false, apart := false, laid := [("math/bits.deBruijn64tab", laid_math_bits_deBruijn64tab), ("unicode/utf8.acceptRanges", laid_unicode_utf8_acceptRanges), ("unicode/utf8.first", laid_unicode_utf8_first)] }
def MachineMovesSaid : Prop := machineMovesRow.holds Tryz.pinned (OpenSpec.ofChange machineMovesSpec)

/-- ITS FALSE NEIGHBOUR: 'it returns false'. Refute it at one input. -/
def machineMovesWrong : ChangeSpec := { name := "machineMoves", fn := fun _ => fun
  | [d1, d2] => { results := [.lit (.bool false)], args := [d1, d2] }
  | _ => none }
def MachineMovesWrongFalsely : Prop := machineMovesRow.holds Tryz.pinned (OpenSpec.ofChange machineMovesWrong)

/-- 'farandolelaw26.MachineIncludes': WHATEVER THE INPUT: true; the input reads as it did. -/
def machineIncludesSpec : ChangeSpec := { name := "machineIncludes", fn := fun _ => fun
  | [d1, d2] => { results := [.lit (.bool true)], args := [d1, d2] }
  | _ => none }
def machineIncludesRow : OpenClaim := { program := "ytkebghjhekoecaagreatdoor", sum := "8c5151bd122c46f45f1dbca1a3088495ca6e7daf1f897b553d6eec02aacaddcf", func := "farandole/farandolelaw26.MachineIncludes", spec := "machineIncludes", inPlace := ["internal/bytealg.CountString", "internal/bytealg.IndexByteString", "internal/bytealg.IndexString"], unfollowed := true, recurses := true, named := ["unicode/utf8.first", "unicode/utf8.acceptRanges", "internal/bytealg.MaxLen", "math/bits.deBruijn64tab"], plainKeys := false, apart := false, laid := [("math/bits.deBruijn64tab", laid_math_bits_deBruijn64tab), ("unicode/utf8.acceptRanges", laid_unicode_utf8_acceptRanges), ("unicode/utf8.first", laid_unicode_utf8_first)] }
def MachineIncludesSaid : Prop := machineIncludesRow.holds Tryz.pinned (OpenSpec.ofChange machineIncludesSpec)

/-- ITS FALSE NEIGHBOUR: 'it returns false'. Refute it at one input. -/
def machineIncludesWrong : ChangeSpec := { name := "machineIncludes", fn := fun _ => fun
  | [d1, d2] => { results := [.lit (.bool false)], args := [d1, d2] }
  | _ => none }
def MachineIncludesWrongFalsely : Prop := machineIncludesRow.holds Tryz.pinned (OpenSpec.ofChange machineIncludesWrong)

/-- 'farandolelaw26.MachineLeast': WHATEVER THE INPUT: true; the input reads as it did. -/
def machineLeastSpec : ChangeSpec := { name := "machineLeast", fn := fun _ => fun
  | [d1, d2, d3] => { results := [.lit (.bool true)], args := [d1, d2, d3] }
  | _ => none }
def machineLeastRow : OpenClaim := { program := "ytkebghjhekoecaagreatdoor", sum := "8c5151bd122c46f45f1dbca1a3088495ca6e7daf1f897b553d6eec02aacaddcf", func := "farandole/farandolelaw26.MachineLeast", spec := "machineLeast", inPlace := ["internal/bytealg.CountString", "internal/bytealg.IndexByteString", "internal/bytealg.IndexString"], unfollowed := true, recurses := true, named := ["unicode/utf8.first", "unicode/utf8.acceptRanges", "internal/bytealg.MaxLen", "math/bits.deBruijn64tab"], plainKeys := false, apart := false, laid := [("math/bits.deBruijn64tab", laid_math_bits_deBruijn64tab), ("unicode/utf8.acceptRanges", laid_unicode_utf8_acceptRanges), ("unicode/utf8.first", laid_unicode_utf8_first)] }
def MachineLeastSaid : Prop := machineLeastRow.holds Tryz.pinned (OpenSpec.ofChange machineLeastSpec)

/-- ITS FALSE NEIGHBOUR: 'it returns false'. Refute it at one input. -/
def machineLeastWrong : ChangeSpec := { name := "machineLeast", fn := fun _ => fun
  | [d1, d2, d3] => { results := [.lit (.bool false)], args := [d1, d2, d3] }
  | _ => none }
def MachineLeastWrongFalsely : Prop := machineLeastRow.holds Tryz.pinned (OpenSpec.ofChange machineLeastWrong)

/-- 'farandolelaw26.MachineProjected': WHATEVER THE INPUT: true; the input reads as it did. -/
def machineProjectedSpec : ChangeSpec := { name := "machineProjected", fn := fun _ => fun
  | [d1, d2] => { results := [.lit (.bool true)], args := [d1, d2] }
  | _ => none }
def machineProjectedRow : OpenClaim := { program := "ytkebghjhekoecaagreatdoor", sum := "8c5151bd122c46f45f1dbca1a3088495ca6e7daf1f897b553d6eec02aacaddcf", func := "farandole/farandolelaw26.MachineProjected", spec := "machineProjected", inPlace := ["internal/bytealg.CountString", "internal/bytealg.IndexByteString", "internal/bytealg.IndexString"], unfollowed := true, recurses := true, named := ["unicode/utf8.first", "unicode/utf8.acceptRanges", "internal/bytealg.MaxLen", "math/bits.deBruijn64tab"], plainKeys := false, apart := false, laid := [("math/bits.deBruijn64tab", laid_math_bits_deBruijn64tab), ("unicode/utf8.acceptRanges", laid_unicode_utf8_acceptRanges), ("unicode/utf8.first", laid_unicode_utf8_first)] }
def MachineProjectedSaid : Prop := machineProjectedRow.holds Tryz.pinned (OpenSpec.ofChange machineProjectedSpec)

/-- ITS FALSE NEIGHBOUR: 'it returns false'. Refute it at one input. -/
def machineProjectedWrong : ChangeSpec := { name := "machineProjected", fn := fun _ => fun
  | [d1, d2] => { results := [.lit (.bool false)], args := [d1, d2] }
  | _ => none }
def MachineProjectedWrongFalsely : Prop := machineProjectedRow.holds Tryz.pinned (OpenSpec.ofChange machineProjectedWrong)

/-- 'farandolelaw26.MachineForms': WHATEVER THE INPUT: true; the input reads as it did. -/
def machineFormsSpec : ChangeSpec := { name := "machineForms", fn := fun _ => fun
  | [d] => { results := [.lit (.bool true)], args := [d] }
  | _ => none }
def machineFormsRow : OpenClaim := { program := "ytkebghjhekoecaagreatdoor", sum := "8c5151bd122c46f45f1dbca1a3088495ca6e7daf1f897b553d6eec02aacaddcf", func := "farandole/farandolelaw26.MachineForms", spec := "machineForms", inPlace := ["internal/bytealg.CountString", "internal/bytealg.IndexByteString", "internal/bytealg.IndexString"], unfollowed := true, recurses := true, named := ["unicode/utf8.first", "unicode/utf8.acceptRanges", "internal/bytealg.MaxLen", "math/bits.deBruijn64tab"], plainKeys := false, apart := false, laid := [("math/bits.deBruijn64tab", laid_math_bits_deBruijn64tab), ("unicode/utf8.acceptRanges", laid_unicode_utf8_acceptRanges), ("unicode/utf8.first", laid_unicode_utf8_first)] }
def MachineFormsSaid : Prop := machineFormsRow.holds Tryz.pinned (OpenSpec.ofChange machineFormsSpec)

/-- ITS FALSE NEIGHBOUR: 'it returns false'. Refute it at one input. -/
def machineFormsWrong : ChangeSpec := { name := "machineForms", fn := fun _ => fun
  | [d] => { results := [.lit (.bool false)], args := [d] }
  | _ => none }
def MachineFormsWrongFalsely : Prop := machineFormsRow.holds Tryz.pinned (OpenSpec.ofChange machineFormsWrong)

/-- 'farandolelaw26.MachineMinimal': WHATEVER THE INPUT: true; the input reads as it did. -/
def machineMinimalSpec : ChangeSpec := { name := "machineMinimal", fn := fun _ => fun
  | [d1, d2, d3] => { results := [.lit (.bool true)], args := [d1, d2, d3] }
  | _ => none }
def machineMinimalRow : OpenClaim := { program := "ytkebghjhekoecaagreatdoor", sum := "8c5151bd122c46f45f1dbca1a3088495ca6e7daf1f897b553d6eec02aacaddcf", func := "farandole/farandolelaw26.MachineMinimal", spec := "machineMinimal", inPlace := ["internal/bytealg.CountString", "internal/bytealg.IndexByteString", "internal/bytealg.IndexString"], unfollowed := true, recurses := true, named := ["unicode/utf8.first", "unicode/utf8.acceptRanges", "internal/bytealg.MaxLen", "math/bits.deBruijn64tab"], plainKeys := false, apart := false, laid := [("math/bits.deBruijn64tab", laid_math_bits_deBruijn64tab), ("unicode/utf8.acceptRanges", laid_unicode_utf8_acceptRanges), ("unicode/utf8.first", laid_unicode_utf8_first)] }
def MachineMinimalSaid : Prop := machineMinimalRow.holds Tryz.pinned (OpenSpec.ofChange machineMinimalSpec)

/-- ITS FALSE NEIGHBOUR: 'it returns false'. Refute it at one input. -/
def machineMinimalWrong : ChangeSpec := { name := "machineMinimal", fn := fun _ => fun
  | [d1, d2, d3] => { results := [.lit (.bool false)], args := [d1, d2, d3] }
  | _ => none }
def MachineMinimalWrongFalsely : Prop := machineMinimalRow.holds Tryz.pinned (OpenSpec.ofChange machineMinimalWrong)

/-- 'farandolelaw26.MachineCodes': WHATEVER THE INPUT: true; the input reads as it did. -/
def machineCodesSpec : ChangeSpec := { name := "machineCodes", fn := fun _ => fun
  | [d1, d2, d3] => { results := [.lit (.bool true)], args := [d1, d2, d3] }
  | _ => none }
def machineCodesRow : OpenClaim := { program := "ytkebghjhekoecaagreatdoor", sum := "8c5151bd122c46f45f1dbca1a3088495ca6e7daf1f897b553d6eec02aacaddcf", func := "farandole/farandolelaw26.MachineCodes", spec := "machineCodes", inPlace := ["internal/bytealg.CountString", "internal/bytealg.IndexByteString", "internal/bytealg.IndexString"], unfollowed := true, recurses := true, named := ["unicode/utf8.first", "unicode/utf8.acceptRanges", "internal/bytealg.MaxLen", "math/bits.deBruijn64tab"], plainKeys := false, apart := false, laid := [("math/bits.deBruijn64tab", laid_math_bits_deBruijn64tab), ("unicode/utf8.acceptRanges", laid_unicode_utf8_acceptRanges), ("unicode/utf8.first", laid_unicode_utf8_first)] }
def MachineCodesSaid : Prop := machineCodesRow.holds Tryz.pinned (OpenSpec.ofChange machineCodesSpec)

/-- ITS FALSE NEIGHBOUR: 'it returns false'. Refute it at one input. -/
def machineCodesWrong : ChangeSpec := { name := "machineCodes", fn := fun _ => fun
  | [d1, d2, d3] => { results := [.lit (.bool false)], args := [d1, d2, d3] }
  | _ => none }
def MachineCodesWrongFalsely : Prop := machineCodesRow.holds Tryz.pinned (OpenSpec.ofChange machineCodesWrong)

/- THE SECOND FORM. 'bulk': how many values and letters a reading holds, each counted each time it is reached (what is shared counts as often as it is met; a slice's spare places count too). A statement '..UptoSaid' is the law's where the arguments, and the package variables that the reading takes, are together of bulk at most 1048576: NARROWER than '..Said'. Prove '..Said' where nothing that the law and all that it calls make is longer than what came in: it says more and counts as full. Else prove '..UptoSaid'. A law counts once. -/
mutual
def uptoBulk {H : Type} : DataW H → Nat
  | .lit (.string bytes) => bytes.length + 1
  | .lit _ => 1
  | .nil => 1
  | .ptr d => uptoBulk d + 1
  | .slice elems spare => uptoBulkAll elems + uptoBulkAll spare + 1
  | .agg parts => uptoBulkAll parts + 1
  | .iface _ d => uptoBulk d + 1
  | .map entries => uptoBulkEntries entries + 1
  | .held _ => 1
def uptoBulkAll {H : Type} : List (DataW H) → Nat
  | [] => 0
  | d :: r => uptoBulk d + uptoBulkAll r
def uptoBulkEntries {H : Type} : List (Lit × DataW H) → Nat
  | [] => 0
  | x :: r => uptoBulkEntry x + uptoBulkEntries r
def uptoBulkEntry {H : Type} : Lit × DataW H → Nat
  | (.string bytes, d) => bytes.length + uptoBulk d + 1
  | (_, d) => uptoBulk d + 1
 end
def uptoSmall : (H : Type) → List (DataW H) → Bool := fun _ ds => decide (uptoBulkAll ds ≤ 1048576)
def OpenSpec.upto (s : _root_.Go.ChangeSpec) : _root_.Go.OpenSpec := { _root_.Go.OpenSpec.ofChange s with cond := some uptoSmall }

/-- 'farandolelaw26.MachineRuns', WHERE WHAT IT READS IS OF BULK AT MOST 1048576: true; the input reads as it did. -/
def machineRunsUptoRow : OpenClaim := { program := "ytkebghjhekoecaagreatdoor", sum := "8c5151bd122c46f45f1dbca1a3088495ca6e7daf1f897b553d6eec02aacaddcf", func := "farandole/farandolelaw26.MachineRuns", spec := "machineRuns", inPlace := ["internal/bytealg.CountString", "internal/bytealg.IndexByteString", "internal/bytealg.IndexString"], unfollowed := true, recurses := true, named := ["unicode/utf8.first", "unicode/utf8.acceptRanges", "internal/bytealg.MaxLen", "math/bits.deBruijn64tab"], plainKeys := false, apart := false, laid := [("math/bits.deBruijn64tab", laid_math_bits_deBruijn64tab), ("unicode/utf8.acceptRanges", laid_unicode_utf8_acceptRanges), ("unicode/utf8.first", laid_unicode_utf8_first)], narrowed := true }
def MachineRunsUptoSaid : Prop := machineRunsUptoRow.holds Tryz.pinned (OpenSpec.upto machineRunsSpec)

/-- 'farandolelaw26.MachineSteps', WHERE WHAT IT READS IS OF BULK AT MOST 1048576: true; the input reads as it did. -/
def machineStepsUptoRow : OpenClaim := { program := "ytkebghjhekoecaagreatdoor", sum := "8c5151bd122c46f45f1dbca1a3088495ca6e7daf1f897b553d6eec02aacaddcf", func := "farandole/farandolelaw26.MachineSteps", spec := "machineSteps", inPlace := ["internal/bytealg.CountString", "internal/bytealg.IndexByteString", "internal/bytealg.IndexString"], unfollowed := true, recurses := true, named := ["unicode/utf8.first", "unicode/utf8.acceptRanges", "internal/bytealg.MaxLen", "math/bits.deBruijn64tab"], plainKeys := false, apart := false, laid := [("math/bits.deBruijn64tab", laid_math_bits_deBruijn64tab), ("unicode/utf8.acceptRanges", laid_unicode_utf8_acceptRanges), ("unicode/utf8.first", laid_unicode_utf8_first)], narrowed := true }
def MachineStepsUptoSaid : Prop := machineStepsUptoRow.holds Tryz.pinned (OpenSpec.upto machineStepsSpec)

/-- 'farandolelaw26.MachineMoves', WHERE WHAT IT READS IS OF BULK AT MOST 1048576: true; the input reads as it did. -/
def machineMovesUptoRow : OpenClaim := { program := "ytkebghjhekoecaagreatdoor", sum := "8c5151bd122c46f45f1dbca1a3088495ca6e7daf1f897b553d6eec02aacaddcf", func := "farandole/farandolelaw26.MachineMoves", spec := "machineMoves", inPlace := ["internal/bytealg.CountString", "internal/bytealg.IndexByteString", "internal/bytealg.IndexString"], unfollowed := true, recurses := true, named := ["unicode/utf8.first", "unicode/utf8.acceptRanges", "internal/bytealg.MaxLen", "math/bits.deBruijn64tab"], plainKeys := false, apart := false, laid := [("math/bits.deBruijn64tab", laid_math_bits_deBruijn64tab), ("unicode/utf8.acceptRanges", laid_unicode_utf8_acceptRanges), ("unicode/utf8.first", laid_unicode_utf8_first)], narrowed := true }
def MachineMovesUptoSaid : Prop := machineMovesUptoRow.holds Tryz.pinned (OpenSpec.upto machineMovesSpec)

/-- 'farandolelaw26.MachineIncludes', WHERE WHAT IT READS IS OF BULK AT MOST 1048576: true; the input reads as it did. -/
def machineIncludesUptoRow : OpenClaim := { program := "ytkebghjhekoecaagreatdoor", sum := "8c5151bd122c46f45f1dbca1a3088495ca6e7daf1f897b553d6eec02aacaddcf", func := "farandole/farandolelaw26.MachineIncludes", spec := "machineIncludes", inPlace := ["internal/bytealg.CountString", "internal/bytealg.IndexByteString", "internal/bytealg.IndexString"], unfollowed := true, recurses := true, named := ["unicode/utf8.first", "unicode/utf8.acceptRanges", "internal/bytealg.MaxLen", "math/bits.deBruijn64tab"], plainKeys := false, apart := false, laid := [("math/bits.deBruijn64tab", laid_math_bits_deBruijn64tab), ("unicode/utf8.acceptRanges", laid_unicode_utf8_acceptRanges), ("unicode/utf8.first", laid_unicode_utf8_first)], narrowed := true }
def MachineIncludesUptoSaid : Prop := machineIncludesUptoRow.holds Tryz.pinned (OpenSpec.upto machineIncludesSpec)

/-- 'farandolelaw26.MachineLeast', WHERE WHAT IT READS IS OF BULK AT MOST 1048576: true; the input reads as it did. -/
def machineLeastUptoRow : OpenClaim := { program := "ytkebghjhekoecaagreatdoor", sum := "8c5151bd122c46f45f1dbca1a3088495ca6e7daf1f897b553d6eec02aacaddcf", func := "farandole/farandolelaw26.MachineLeast", spec := "machineLeast", inPlace := ["internal/bytealg.CountString", "internal/bytealg.IndexByteString", "internal/bytealg.IndexString"], unfollowed := true, recurses := true, named := ["unicode/utf8.first", "unicode/utf8.acceptRanges", "internal/bytealg.MaxLen", "math/bits.deBruijn64tab"], plainKeys := false, apart := false, laid := [("math/bits.deBruijn64tab", laid_math_bits_deBruijn64tab), ("unicode/utf8.acceptRanges", laid_unicode_utf8_acceptRanges), ("unicode/utf8.first", laid_unicode_utf8_first)], narrowed := true }
def MachineLeastUptoSaid : Prop := machineLeastUptoRow.holds Tryz.pinned (OpenSpec.upto machineLeastSpec)

/-- 'farandolelaw26.MachineProjected', WHERE WHAT IT READS IS OF BULK AT MOST 1048576: true; the input reads as it did. -/
def machineProjectedUptoRow : OpenClaim := { program := "ytkebghjhekoecaagreatdoor", sum := "8c5151bd122c46f45f1dbca1a3088495ca6e7daf1f897b553d6eec02aacaddcf", func := "farandole/farandolelaw26.MachineProjected", spec := "machineProjected", inPlace := ["internal/bytealg.CountString", "internal/bytealg.IndexByteString", "internal/bytealg.IndexString"], unfollowed := true, recurses := true, named := ["unicode/utf8.first", "unicode/utf8.acceptRanges", "internal/bytealg.MaxLen", "math/bits.deBruijn64tab"], plainKeys := false, apart := false, laid := [("math/bits.deBruijn64tab", laid_math_bits_deBruijn64tab), ("unicode/utf8.acceptRanges", laid_unicode_utf8_acceptRanges), ("unicode/utf8.first", laid_unicode_utf8_first)], narrowed := true }
def MachineProjectedUptoSaid : Prop := machineProjectedUptoRow.holds Tryz.pinned (OpenSpec.upto machineProjectedSpec)

/-- 'farandolelaw26.MachineForms', WHERE WHAT IT READS IS OF BULK AT MOST 1048576: true; the input reads as it did. -/
def machineFormsUptoRow : OpenClaim := { program := "ytkebghjhekoecaagreatdoor", sum := "8c5151bd122c46f45f1dbca1a3088495ca6e7daf1f897b553d6eec02aacaddcf", func := "farandole/farandolelaw26.MachineForms", spec := "machineForms", inPlace := ["internal/bytealg.CountString", "internal/bytealg.IndexByteString", "internal/bytealg.IndexString"], unfollowed := true, recurses := true, named := ["unicode/utf8.first", "unicode/utf8.acceptRanges", "internal/bytealg.MaxLen", "math/bits.deBruijn64tab"], plainKeys := false, apart := false, laid := [("math/bits.deBruijn64tab", laid_math_bits_deBruijn64tab), ("unicode/utf8.acceptRanges", laid_unicode_utf8_acceptRanges), ("unicode/utf8.first", laid_unicode_utf8_first)], narrowed := true }
def MachineFormsUptoSaid : Prop := machineFormsUptoRow.holds Tryz.pinned (OpenSpec.upto machineFormsSpec)

/-- 'farandolelaw26.MachineMinimal', WHERE WHAT IT READS IS OF BULK AT MOST 1048576: true; the input reads as it did. -/
def machineMinimalUptoRow : OpenClaim := { program := "ytkebghjhekoecaagreatdoor", sum := "8c5151bd122c46f45f1dbca1a3088495ca6e7daf1f897b553d6eec02aacaddcf", func := "farandole/farandolelaw26.MachineMinimal", spec := "machineMinimal", inPlace := ["internal/bytealg.CountString", "internal/bytealg.IndexByteString", "internal/bytealg.IndexString"], unfollowed := true, recurses := true, named := ["unicode/utf8.first", "unicode/utf8.acceptRanges", "internal/bytealg.MaxLen", "math/bits.deBruijn64tab"], plainKeys := false, apart := false, laid := [("math/bits.deBruijn64tab", laid_math_bits_deBruijn64tab), ("unicode/utf8.acceptRanges", laid_unicode_utf8_acceptRanges), ("unicode/utf8.first", laid_unicode_utf8_first)], narrowed := true }
def MachineMinimalUptoSaid : Prop := machineMinimalUptoRow.holds Tryz.pinned (OpenSpec.upto machineMinimalSpec)

/-- 'farandolelaw26.MachineCodes', WHERE WHAT IT READS IS OF BULK AT MOST 1048576: true; the input reads as it did. -/
def machineCodesUptoRow : OpenClaim := { program := "ytkebghjhekoecaagreatdoor", sum := "8c5151bd122c46f45f1dbca1a3088495ca6e7daf1f897b553d6eec02aacaddcf", func := "farandole/farandolelaw26.MachineCodes", spec := "machineCodes", inPlace := ["internal/bytealg.CountString", "internal/bytealg.IndexByteString", "internal/bytealg.IndexString"], unfollowed := true, recurses := true, named := ["unicode/utf8.first", "unicode/utf8.acceptRanges", "internal/bytealg.MaxLen", "math/bits.deBruijn64tab"], plainKeys := false, apart := false, laid := [("math/bits.deBruijn64tab", laid_math_bits_deBruijn64tab), ("unicode/utf8.acceptRanges", laid_unicode_utf8_acceptRanges), ("unicode/utf8.first", laid_unicode_utf8_first)], narrowed := true }
def MachineCodesUptoSaid : Prop := machineCodesUptoRow.holds Tryz.pinned (OpenSpec.upto machineCodesSpec)

end Rows
end Go.Proofs.YtkebghjhekoecaaGreatDoor
