/-
  NARROWER THAN 'FOR EVERY INPUT', by the rows' own cells (each row's printed sentence says how): ComposeSteps: laid · ComposePossible: laid · ComposeDo: laid · ComposeCommutes: laid · ComposeOrder: laid · ComposeCodes: laid · ComposeBad: laid · ComposeProgress: laid · ComposeFidelity: laid.
  DERIVED. THE GIVEN ROWS OF THIS SEAT. 9 by the template 'for every input the law returns true; each argument reads behind the call as it read before'; 0 by the template 'total and deterministic' (their statements: YtnfkibjnkiojnaaGreatDoorTotals.lean).
  GIVEN WITH THE SEED: the statements are not yours to turn. If you find one false, say at which input.
  Laid BY PROGRAM, IN A SANDBOX (cutbox-rows.mjs): the forced cells as the released guide's own fill.sh prints them over the translation e95bd1ac57cffbbe… (all of the seat's roots in one cut). By AI agents, Wed Nov 11 2026. No macro, syntax, notation, axiom, sorry.
-/
import Derived.Test.YtnfkibjnkiojnaaGreatDoorChecked
import GoSem.PinnedTables
import GoSem.Claim
import GoSem.ClaimJoined
import GoSem.ClaimMapViews
import Derived.JoinedTies
import Derived.KernelRfl
namespace Go.Proofs.YtnfkibjnkiojnaaGreatDoor
/- THE CELL 'sum', in the pinned program and in every row, IS THE sha256 OF THE DUMP (.gsa) THAT YtnfkibjnkiojnaaGreatDoorProg.lean LOADS. Nothing in Lean hashes anything: it is a label: what it is worth is what the hold of that sum in a sandbox is worth. -/
noncomputable def Tryz.pinned : Pinned := { name := "ytnfkibjnkiojnaagreatdoor", sum := "e95bd1ac57cffbbed1c11d4a83396d721efc6f059fff264f13652c7c3cc4e9ca", checked := Tryz.checked }
namespace Rows
def none {H : Type} : Left H := { results := [], args := [] }

/- WHAT THE LISTED PACKAGE-LEVEL VARIABLES READ AS WHEN THE CALL BEGINS. Each datum BY PROGRAM (the guide's laid-datum.mjs) off the statement by which the dump's own 'gosem.cut.vars' lays the variable. In a bare row this is a premise. The card (YtnfkibjnkiojnaaGreatDoorCards.lean) ties it to the program's text. -/
def laid_math_bits_deBruijn64tab {H : Type} : DataW H := .agg [.lit (.int .u8 0), .lit (.int .u8 1), .lit (.int .u8 56), .lit (.int .u8 2), .lit (.int .u8 57), .lit (.int .u8 49), .lit (.int .u8 28), .lit (.int .u8 3), .lit (.int .u8 61), .lit (.int .u8 58), .lit (.int .u8 42), .lit (.int .u8 50), .lit (.int .u8 38), .lit (.int .u8 29), .lit (.int .u8 17), .lit (.int .u8 4), .lit (.int .u8 62), .lit (.int .u8 47), .lit (.int .u8 59), .lit (.int .u8 36), .lit (.int .u8 45), .lit (.int .u8 43), .lit (.int .u8 51), .lit (.int .u8 22), .lit (.int .u8 53), .lit (.int .u8 39), .lit (.int .u8 33), .lit (.int .u8 30), .lit (.int .u8 24), .lit (.int .u8 18), .lit (.int .u8 12), .lit (.int .u8 5), .lit (.int .u8 63), .lit (.int .u8 55), .lit (.int .u8 48), .lit (.int .u8 27), .lit (.int .u8 60), .lit (.int .u8 41), .lit (.int .u8 37), .lit (.int .u8 16), .lit (.int .u8 46), .lit (.int .u8 35), .lit (.int .u8 44), .lit (.int .u8 21), .lit (.int .u8 52), .lit (.int .u8 32), .lit (.int .u8 23), .lit (.int .u8 11), .lit (.int .u8 54), .lit (.int .u8 26), .lit (.int .u8 40), .lit (.int .u8 15), .lit (.int .u8 34), .lit (.int .u8 20), .lit (.int .u8 31), .lit (.int .u8 10), .lit (.int .u8 25), .lit (.int .u8 14), .lit (.int .u8 19), .lit (.int .u8 9), .lit (.int .u8 13), .lit (.int .u8 8), .lit (.int .u8 7), .lit (.int .u8 6)]
def laid_unicode_utf8_acceptRanges {H : Type} : DataW H := .agg [.agg [.lit (.int .u8 128), .lit (.int .u8 191)], .agg [.lit (.int .u8 160), .lit (.int .u8 191)], .agg [.lit (.int .u8 128), .lit (.int .u8 159)], .agg [.lit (.int .u8 144), .lit (.int .u8 191)], .agg [.lit (.int .u8 128), .lit (.int .u8 143)], .agg [.lit (.int .u8 0), .lit (.int .u8 0)], .agg [.lit (.int .u8 0), .lit (.int .u8 0)], .agg [.lit (.int .u8 0), .lit (.int .u8 0)], .agg [.lit (.int .u8 0), .lit (.int .u8 0)], .agg [.lit (.int .u8 0), .lit (.int .u8 0)], .agg [.lit (.int .u8 0), .lit (.int .u8 0)], .agg [.lit (.int .u8 0), .lit (.int .u8 0)], .agg [.lit (.int .u8 0), .lit (.int .u8 0)], .agg [.lit (.int .u8 0), .lit (.int .u8 0)], .agg [.lit (.int .u8 0), .lit (.int .u8 0)], .agg [.lit (.int .u8 0), .lit (.int .u8 0)]]
/-- One of Go's own tables, pinned by name: the form's constant. -/
def laid_unicode_utf8_first : DataW Unit := Go.Pinned.utf8First

/-- 'farandolelaw27.ComposeSteps': WHATEVER THE INPUT: true; the input reads as it did. -/
def composeStepsSpec : ChangeSpec := { name := "composeSteps", fn := fun _ => fun
  | [d1, d2, d3] => { results := [.lit (.bool true)], args := [d1, d2, d3] }
  | _ => none }
def composeStepsRow : OpenClaim := { program := "ytnfkibjnkiojnaagreatdoor", sum := "e95bd1ac57cffbbed1c11d4a83396d721efc6f059fff264f13652c7c3cc4e9ca", func := "farandole/farandolelaw27.ComposeSteps", spec := "composeSteps", inPlace := ["internal/bytealg.CountString", "internal/bytealg.IndexByteString", "internal/bytealg.IndexString"], unfollowed := true, recurses := true, named := ["unicode/utf8.first", "unicode/utf8.acceptRanges", "internal/bytealg.MaxLen", "math/bits.deBruijn64tab"], plainKeys := false, apart := false, laid := [("math/bits.deBruijn64tab", laid_math_bits_deBruijn64tab), ("unicode/utf8.acceptRanges", laid_unicode_utf8_acceptRanges), ("unicode/utf8.first", laid_unicode_utf8_first)] }
def ComposeStepsSaid : Prop := composeStepsRow.holds Tryz.pinned (OpenSpec.ofChange composeStepsSpec)

/-- ITS FALSE NEIGHBOUR: 'it returns false'. Refute it at one input. -/
def composeStepsWrong : ChangeSpec := { name := "composeSteps", fn := fun _ => fun
  | [d1, d2, d3] => { results := [.lit (.bool false)], args := [d1, d2, d3] }
  | _ => none }
def ComposeStepsWrongFalsely : Prop := composeStepsRow.holds Tryz.pinned (OpenSpec.ofChange composeStepsWrong)

/-- 'farandolelaw27.ComposePossible': WHATEVER THE INPUT: true; the input reads as it did. -/
def composePossibleSpec : ChangeSpec := { name := "composePossible", fn := fun _ => fun
  | [d1, d2, d3] => { results := [.lit (.bool true)], args := [d1, d2, d3] }
  | _ => none }
def composePossibleRow : OpenClaim := { program := "ytnfkibjnkiojnaagreatdoor", sum := "e95bd1ac57cffbbed1c11d4a83396d721efc6f059fff264f13652c7c3cc4e9ca", func := "farandole/farandolelaw27.ComposePossible", spec := "composePossible", inPlace := ["internal/bytealg.CountString", "internal/bytealg.IndexByteString", "internal/bytealg.IndexString"], unfollowed := true, recurses := true, named := ["unicode/utf8.first", "unicode/utf8.acceptRanges", "internal/bytealg.MaxLen", "math/bits.deBruijn64tab"], plainKeys := false, apart := false, laid := [("math/bits.deBruijn64tab", laid_math_bits_deBruijn64tab), ("unicode/utf8.acceptRanges", laid_unicode_utf8_acceptRanges), ("unicode/utf8.first", laid_unicode_utf8_first)] }
def ComposePossibleSaid : Prop := composePossibleRow.holds Tryz.pinned (OpenSpec.ofChange composePossibleSpec)

/-- ITS FALSE NEIGHBOUR: 'it returns false'. Refute it at one input. -/
def composePossibleWrong : ChangeSpec := { name := "composePossible", fn := fun _ => fun
  | [d1, d2, d3] => { results := [.lit (.bool false)], args := [d1, d2, d3] }
  | _ => none }
def ComposePossibleWrongFalsely : Prop := composePossibleRow.holds Tryz.pinned (OpenSpec.ofChange composePossibleWrong)

/-- 'farandolelaw27.ComposeDo': WHATEVER THE INPUT: true; the input reads as it did. -/
def composeDoSpec : ChangeSpec := { name := "composeDo", fn := fun _ => fun
  | [d1, d2] => { results := [.lit (.bool true)], args := [d1, d2] }
  | _ => none }
def composeDoRow : OpenClaim := { program := "ytnfkibjnkiojnaagreatdoor", sum := "e95bd1ac57cffbbed1c11d4a83396d721efc6f059fff264f13652c7c3cc4e9ca", func := "farandole/farandolelaw27.ComposeDo", spec := "composeDo", inPlace := ["internal/bytealg.CountString", "internal/bytealg.IndexByteString", "internal/bytealg.IndexString"], unfollowed := true, recurses := true, named := ["unicode/utf8.first", "unicode/utf8.acceptRanges", "internal/bytealg.MaxLen", "math/bits.deBruijn64tab"], plainKeys := false, apart := false, laid := [("math/bits.deBruijn64tab", laid_math_bits_deBruijn64tab), ("unicode/utf8.acceptRanges", laid_unicode_utf8_acceptRanges), ("unicode/utf8.first", laid_unicode_utf8_first)] }
def ComposeDoSaid : Prop := composeDoRow.holds Tryz.pinned (OpenSpec.ofChange composeDoSpec)

/-- ITS FALSE NEIGHBOUR: 'it returns false'. Refute it at one input. -/
def composeDoWrong : ChangeSpec := { name := "composeDo", fn := fun _ => fun
  | [d1, d2] => { results := [.lit (.bool false)], args := [d1, d2] }
  | _ => none }
def ComposeDoWrongFalsely : Prop := composeDoRow.holds Tryz.pinned (OpenSpec.ofChange composeDoWrong)

/-- 'farandolelaw27.ComposeCommutes': WHATEVER THE INPUT: true; the input reads as it did. -/
def composeCommutesSpec : ChangeSpec := { name := "composeCommutes", fn := fun _ => fun
  | [d1, d2, d3] => { results := [.lit (.bool true)], args := [d1, d2, d3] }
  | _ => none }
def composeCommutesRow : OpenClaim := { program := "ytnfkibjnkiojnaagreatdoor", sum := "e95bd1ac57cffbbed1c11d4a83396d721efc6f059fff264f13652c7c3cc4e9ca", func := "farandole/farandolelaw27.ComposeCommutes", spec := "composeCommutes", inPlace := ["internal/bytealg.CountString", "internal/bytealg.IndexByteString", "internal/bytealg.IndexString"], unfollowed := true, recurses := true, named := ["unicode/utf8.first", "unicode/utf8.acceptRanges", "internal/bytealg.MaxLen", "math/bits.deBruijn64tab"], plainKeys := false, apart := false, laid := [("math/bits.deBruijn64tab", laid_math_bits_deBruijn64tab), ("unicode/utf8.acceptRanges", laid_unicode_utf8_acceptRanges), ("unicode/utf8.first", laid_unicode_utf8_first)] }
def ComposeCommutesSaid : Prop := composeCommutesRow.holds Tryz.pinned (OpenSpec.ofChange composeCommutesSpec)

/-- ITS FALSE NEIGHBOUR: 'it returns false'. Refute it at one input. -/
def composeCommutesWrong : ChangeSpec := { name := "composeCommutes", fn := fun _ => fun
  | [d1, d2, d3] => { results := [.lit (.bool false)], args := [d1, d2, d3] }
  | _ => none }
def ComposeCommutesWrongFalsely : Prop := composeCommutesRow.holds Tryz.pinned (OpenSpec.ofChange composeCommutesWrong)

/-- 'farandolelaw27.ComposeOrder': WHATEVER THE INPUT: true; the input reads as it did. -/
def composeOrderSpec : ChangeSpec := { name := "composeOrder", fn := fun _ => fun
  | [d1, d2, d3] => { results := [.lit (.bool true)], args := [d1, d2, d3] }
  | _ => none }
def composeOrderRow : OpenClaim := { program := "ytnfkibjnkiojnaagreatdoor", sum := "e95bd1ac57cffbbed1c11d4a83396d721efc6f059fff264f13652c7c3cc4e9ca", func := "farandole/farandolelaw27.ComposeOrder", spec := "composeOrder", inPlace := ["internal/bytealg.CountString", "internal/bytealg.IndexByteString", "internal/bytealg.IndexString"], unfollowed := true, recurses := true, named := ["unicode/utf8.first", "unicode/utf8.acceptRanges", "internal/bytealg.MaxLen", "math/bits.deBruijn64tab"], plainKeys := false, apart := false, laid := [("math/bits.deBruijn64tab", laid_math_bits_deBruijn64tab), ("unicode/utf8.acceptRanges", laid_unicode_utf8_acceptRanges), ("unicode/utf8.first", laid_unicode_utf8_first)] }
def ComposeOrderSaid : Prop := composeOrderRow.holds Tryz.pinned (OpenSpec.ofChange composeOrderSpec)

/-- ITS FALSE NEIGHBOUR: 'it returns false'. Refute it at one input. -/
def composeOrderWrong : ChangeSpec := { name := "composeOrder", fn := fun _ => fun
  | [d1, d2, d3] => { results := [.lit (.bool false)], args := [d1, d2, d3] }
  | _ => none }
def ComposeOrderWrongFalsely : Prop := composeOrderRow.holds Tryz.pinned (OpenSpec.ofChange composeOrderWrong)

/-- 'farandolelaw27.ComposeCodes': WHATEVER THE INPUT: true; the input reads as it did. -/
def composeCodesSpec : ChangeSpec := { name := "composeCodes", fn := fun _ => fun
  | [d1, d2] => { results := [.lit (.bool true)], args := [d1, d2] }
  | _ => none }
def composeCodesRow : OpenClaim := { program := "ytnfkibjnkiojnaagreatdoor", sum := "e95bd1ac57cffbbed1c11d4a83396d721efc6f059fff264f13652c7c3cc4e9ca", func := "farandole/farandolelaw27.ComposeCodes", spec := "composeCodes", inPlace := ["internal/bytealg.CountString", "internal/bytealg.IndexByteString", "internal/bytealg.IndexString"], unfollowed := true, recurses := true, named := ["unicode/utf8.first", "unicode/utf8.acceptRanges", "internal/bytealg.MaxLen", "math/bits.deBruijn64tab"], plainKeys := false, apart := false, laid := [("math/bits.deBruijn64tab", laid_math_bits_deBruijn64tab), ("unicode/utf8.acceptRanges", laid_unicode_utf8_acceptRanges), ("unicode/utf8.first", laid_unicode_utf8_first)] }
def ComposeCodesSaid : Prop := composeCodesRow.holds Tryz.pinned (OpenSpec.ofChange composeCodesSpec)

/-- ITS FALSE NEIGHBOUR: 'it returns false'. Refute it at one input. -/
def composeCodesWrong : ChangeSpec := { name := "composeCodes", fn := fun _ => fun
  | [d1, d2] => { results := [.lit (.bool false)], args := [d1, d2] }
  | _ => none }
def ComposeCodesWrongFalsely : Prop := composeCodesRow.holds Tryz.pinned (OpenSpec.ofChange composeCodesWrong)

/-- 'farandolelaw27.ComposeBad': WHATEVER THE INPUT: true; the input reads as it did. -/
def composeBadSpec : ChangeSpec := { name := "composeBad", fn := fun _ => fun
  | [d1, d2, d3] => { results := [.lit (.bool true)], args := [d1, d2, d3] }
  | _ => none }
def composeBadRow : OpenClaim := { program := "ytnfkibjnkiojnaagreatdoor", sum := "e95bd1ac57cffbbed1c11d4a83396d721efc6f059fff264f13652c7c3cc4e9ca", func := "farandole/farandolelaw27.ComposeBad", spec := "composeBad", inPlace := ["internal/bytealg.CountString", "internal/bytealg.IndexByteString", "internal/bytealg.IndexString"], unfollowed := true, recurses := true, named := ["unicode/utf8.first", "unicode/utf8.acceptRanges", "internal/bytealg.MaxLen", "math/bits.deBruijn64tab"], plainKeys := false, apart := false, laid := [("math/bits.deBruijn64tab", laid_math_bits_deBruijn64tab), ("unicode/utf8.acceptRanges", laid_unicode_utf8_acceptRanges), ("unicode/utf8.first", laid_unicode_utf8_first)] }
def ComposeBadSaid : Prop := composeBadRow.holds Tryz.pinned (OpenSpec.ofChange composeBadSpec)

/-- ITS FALSE NEIGHBOUR: 'it returns false'. Refute it at one input. -/
def composeBadWrong : ChangeSpec := { name := "composeBad", fn := fun _ => fun
  | [d1, d2, d3] => { results := [.lit (.bool false)], args := [d1, d2, d3] }
  | _ => none }
def ComposeBadWrongFalsely : Prop := composeBadRow.holds Tryz.pinned (OpenSpec.ofChange composeBadWrong)

/-- 'farandolelaw27.ComposeProgress': WHATEVER THE INPUT: true; the input reads as it did. -/
def composeProgressSpec : ChangeSpec := { name := "composeProgress", fn := fun _ => fun
  | [d1, d2, d3] => { results := [.lit (.bool true)], args := [d1, d2, d3] }
  | _ => none }
def composeProgressRow : OpenClaim := { program := "ytnfkibjnkiojnaagreatdoor", sum := "e95bd1ac57cffbbed1c11d4a83396d721efc6f059fff264f13652c7c3cc4e9ca", func := "farandole/farandolelaw27.ComposeProgress", spec := "composeProgress", inPlace := ["internal/bytealg.CountString", "internal/bytealg.IndexByteString", "internal/bytealg.IndexString"], unfollowed := true, recurses := true, named := ["unicode/utf8.first", "unicode/utf8.acceptRanges", "internal/bytealg.MaxLen", "math/bits.deBruijn64tab"], plainKeys := false, apart := false, laid := [("math/bits.deBruijn64tab", laid_math_bits_deBruijn64tab), ("unicode/utf8.acceptRanges", laid_unicode_utf8_acceptRanges), ("unicode/utf8.first", laid_unicode_utf8_first)] }
def ComposeProgressSaid : Prop := composeProgressRow.holds Tryz.pinned (OpenSpec.ofChange composeProgressSpec)

/-- ITS FALSE NEIGHBOUR: 'it returns false'. Refute it at one input. -/
def composeProgressWrong : ChangeSpec := { name := "composeProgress", fn := fun _ => fun
  | [d1, d2, d3] => { results := [.lit (.bool false)], args := [d1, d2, d3] }
  | _ => none }
def ComposeProgressWrongFalsely : Prop := composeProgressRow.holds Tryz.pinned (OpenSpec.ofChange composeProgressWrong)

/-- 'farandolelaw27.ComposeFidelity': WHATEVER THE INPUT: true; the input reads as it did. -/
def composeFidelitySpec : ChangeSpec := { name := "composeFidelity", fn := fun _ => fun
  | [d1, d2, d3] => { results := [.lit (.bool true)], args := [d1, d2, d3] }
  | _ => none }
def composeFidelityRow : OpenClaim := { program := "ytnfkibjnkiojnaagreatdoor", sum := "e95bd1ac57cffbbed1c11d4a83396d721efc6f059fff264f13652c7c3cc4e9ca", func := "farandole/farandolelaw27.ComposeFidelity", spec := "composeFidelity", inPlace := ["internal/bytealg.CountString", "internal/bytealg.IndexByteString", "internal/bytealg.IndexString"], unfollowed := true, recurses := true, named := ["unicode/utf8.first", "unicode/utf8.acceptRanges", "internal/bytealg.MaxLen", "math/bits.deBruijn64tab"], plainKeys := false, apart := false, laid := [("math/bits.deBruijn64tab", laid_math_bits_deBruijn64tab), ("unicode/utf8.acceptRanges", laid_unicode_utf8_acceptRanges), ("unicode/utf8.first", laid_unicode_utf8_first)] }
def ComposeFidelitySaid : Prop := composeFidelityRow.holds Tryz.pinned (OpenSpec.ofChange composeFidelitySpec)

/-- ITS FALSE NEIGHBOUR: 'it returns false'. Refute it at one input. -/
def composeFidelityWrong : ChangeSpec := { name := "composeFidelity", fn := fun _ => fun
  | [d1, d2, d3] => { results := [.lit (.bool false)], args := [d1, d2, d3] }
  | _ => none }
def ComposeFidelityWrongFalsely : Prop := composeFidelityRow.holds Tryz.pinned (OpenSpec.ofChange composeFidelityWrong)

/- THE SECOND FORM. 'bulk': how many values and letters a reading holds, each counted each time it is reached (what is shared counts as often as it is met; a slice's spare places count too). A statement '..UptoSaid' is the law's where the arguments, and the package variables that the reading takes, are together of bulk at most 1048576: NARROWER than '..Said'. Prove '..Said' where nothing that the law and all that it calls make is longer than what came in: it says more and counts as full. Else prove '..UptoSaid'. A law counts once. -/
mutual
def uptoBulk {H : Type} : DataW H → Nat
  | .lit (.string bytes) => bytes.length + 1
  | .lit _ => 1
  | .nil => 1
  | .ptr d => uptoBulk d + 1
  | .slice elems spare => uptoBulkAll elems + uptoBulkAll spare + 1
  | .agg parts => uptoBulkAll parts + 1
  | .iface _ d => uptoBulk d + 1
  | .map entries => uptoBulkEntries entries + 1
  | .held _ => 1
def uptoBulkAll {H : Type} : List (DataW H) → Nat
  | [] => 0
  | d :: r => uptoBulk d + uptoBulkAll r
def uptoBulkEntries {H : Type} : List (Lit × DataW H) → Nat
  | [] => 0
  | x :: r => uptoBulkEntry x + uptoBulkEntries r
def uptoBulkEntry {H : Type} : Lit × DataW H → Nat
  | (.string bytes, d) => bytes.length + uptoBulk d + 1
  | (_, d) => uptoBulk d + 1
 end
def uptoSmall : (H : Type) → List (DataW H) → Bool := fun _ ds => decide (uptoBulkAll ds ≤ 1048576)
def OpenSpec.upto (s : _root_.Go.ChangeSpec) : _root_.Go.OpenSpec := { _root_.Go.OpenSpec.ofChange s with cond := some uptoSmall }

/-- 'farandolelaw27.ComposeSteps', WHERE WHAT IT READS IS OF BULK AT MOST 1048576: true; the input reads as it did. -/
def composeStepsUptoRow : OpenClaim := { program := "ytnfkibjnkiojnaagreatdoor", sum := "e95bd1ac57cffbbed1c11d4a83396d721efc6f059fff264f13652c7c3cc4e9ca", func := "farandole/farandolelaw27.ComposeSteps", spec := "composeSteps", inPlace := ["internal/bytealg.CountString", "internal/bytealg.IndexByteString", "internal/bytealg.IndexString"], unfollowed := true, recurses := true, named := ["unicode/utf8.first", "unicode/utf8.acceptRanges", "internal/bytealg.MaxLen", "math/bits.deBruijn64tab"], plainKeys := false, apart := false, laid := [("math/bits.deBruijn64tab", laid_math_bits_deBruijn64tab), ("unicode/utf8.acceptRanges", laid_unicode_utf8_acceptRanges), ("unicode/utf8.first", laid_unicode_utf8_first)], narrowed := true }
def ComposeStepsUptoSaid : Prop := composeStepsUptoRow.holds Tryz.pinned (OpenSpec.upto composeStepsSpec)

/-- 'farandolelaw27.ComposePossible', WHERE WHAT IT READS IS OF BULK AT MOST 1048576: true; the input reads as it did. -/
def composePossibleUptoRow : OpenClaim := { program := "ytnfkibjnkiojnaagreatdoor", sum := "e95bd1ac57cffbbed1c11d4a83396d721efc6f059fff264f13652c7c3cc4e9ca", func := "farandole/farandolelaw27.ComposePossible", spec := "composePossible", inPlace := ["internal/bytealg.CountString", "internal/bytealg.IndexByteString", "internal/bytealg.IndexString"], unfollowed := true, recurses := true, named := ["unicode/utf8.first", "unicode/utf8.acceptRanges", "internal/bytealg.MaxLen", "math/bits.deBruijn64tab"], plainKeys := false, apart := false, laid := [("math/bits.deBruijn64tab", laid_math_bits_deBruijn64tab), ("unicode/utf8.acceptRanges", laid_unicode_utf8_acceptRanges), ("unicode/utf8.first", laid_unicode_utf8_first)], narrowed := true }
def ComposePossibleUptoSaid : Prop := composePossibleUptoRow.holds Tryz.pinned (OpenSpec.upto composePossibleSpec)

/-- 'farandolelaw27.ComposeDo', WHERE WHAT IT READS IS OF BULK AT MOST 1048576: true; the input reads as it did. -/
def composeDoUptoRow : OpenClaim := { program := "ytnfkibjnkiojnaagreatdoor", sum := "e95bd1ac57cffbbed1c11d4a83396d721efc6f059fff264f13652c7c3cc4e9ca", func := "farandole/farandolelaw27.ComposeDo", spec := "composeDo", inPlace := ["internal/bytealg.CountString", "internal/bytealg.IndexByteString", "internal/bytealg.IndexString"], unfollowed := true, recurses := true, named := ["unicode/utf8.first", "unicode/utf8.acceptRanges", "internal/bytealg.MaxLen", "math/bits.deBruijn64tab"], plainKeys := false, apart := false, laid := [("math/bits.deBruijn64tab", laid_math_bits_deBruijn64tab), ("unicode/utf8.acceptRanges", laid_unicode_utf8_acceptRanges), ("unicode/utf8.first", laid_unicode_utf8_first)], narrowed := true }
def ComposeDoUptoSaid : Prop := composeDoUptoRow.holds Tryz.pinned (OpenSpec.upto composeDoSpec)

/-- 'farandolelaw27.ComposeCommutes', WHERE WHAT IT READS IS OF BULK AT MOST 1048576: true; the input reads as it did. -/
def composeCommutesUptoRow : OpenClaim := { program := "ytnfkibjnkiojnaagreatdoor", sum := "e95bd1ac57cffbbed1c11d4a83396d721efc6f059fff264f13652c7c3cc4e9ca", func := "farandole/farandolelaw27.ComposeCommutes", spec := "composeCommutes", inPlace := ["internal/bytealg.CountString", "internal/bytealg.IndexByteString", "internal/bytealg.IndexString"], unfollowed := true, recurses := true, named := ["unicode/utf8.first", "unicode/utf8.acceptRanges", "internal/bytealg.MaxLen", "math/bits.deBruijn64tab"], plainKeys := false, apart := false, laid := [("math/bits.deBruijn64tab", laid_math_bits_deBruijn64tab), ("unicode/utf8.acceptRanges", laid_unicode_utf8_acceptRanges), ("unicode/utf8.first", laid_unicode_utf8_first)], narrowed := true }
def ComposeCommutesUptoSaid : Prop := composeCommutesUptoRow.holds Tryz.pinned (OpenSpec.upto composeCommutesSpec)

/-- 'farandolelaw27.ComposeOrder', WHERE WHAT IT READS IS OF BULK AT MOST 1048576: true; the input reads as it did. -/
def composeOrderUptoRow : OpenClaim := { program := "ytnfkibjnkiojnaagreatdoor", sum := "e95bd1ac57cffbbed1c11d4a83396d721efc6f059fff264f13652c7c3cc4e9ca", func := "farandole/farandolelaw27.ComposeOrder", spec := "composeOrder", inPlace := ["internal/bytealg.CountString", "internal/bytealg.IndexByteString", "internal/bytealg.IndexString"], unfollowed := true, recurses := true, named := ["unicode/utf8.first", "unicode/utf8.acceptRanges", "internal/bytealg.MaxLen", "math/bits.deBruijn64tab"], plainKeys := false, apart := false, laid := [("math/bits.deBruijn64tab", laid_math_bits_deBruijn64tab), ("unicode/utf8.acceptRanges", laid_unicode_utf8_acceptRanges), ("unicode/utf8.first", laid_unicode_utf8_first)], narrowed := true }
def ComposeOrderUptoSaid : Prop := composeOrderUptoRow.holds Tryz.pinned (OpenSpec.upto composeOrderSpec)

/-- 'farandolelaw27.ComposeCodes', WHERE WHAT IT READS IS OF BULK AT MOST 1048576: true; the input reads as it did. -/
def composeCodesUptoRow : OpenClaim := { program := "ytnfkibjnkiojnaagreatdoor", sum := "e95bd1ac57cffbbed1c11d4a83396d721efc6f059fff264f13652c7c3cc4e9ca", func := "farandole/farandolelaw27.ComposeCodes", spec := "composeCodes", inPlace := ["internal/bytealg.CountString", "internal/bytealg.IndexByteString", "internal/bytealg.IndexString"], unfollowed := true, recurses := true, named := ["unicode/utf8.first", "unicode/utf8.acceptRanges", "internal/bytealg.MaxLen", "math/bits.deBruijn64tab"], plainKeys := false, apart := false, laid := [("math/bits.deBruijn64tab", laid_math_bits_deBruijn64tab), ("unicode/utf8.acceptRanges", laid_unicode_utf8_acceptRanges), ("unicode/utf8.first", laid_unicode_utf8_first)], narrowed := true }
def ComposeCodesUptoSaid : Prop := composeCodesUptoRow.holds Tryz.pinned (OpenSpec.upto composeCodesSpec)

/-- 'farandolelaw27.ComposeBad', WHERE WHAT IT READS IS OF BULK AT MOST 1048576: true; the input reads as it did. -/
def composeBadUptoRow : OpenClaim := { program := "ytnfkibjnkiojnaagreatdoor", sum := "e95bd1ac57cffbbed1c11d4a83396d721efc6f059fff264f13652c7c3cc4e9ca", func := "farandole/farandolelaw27.ComposeBad", spec := "composeBad", inPlace := ["internal/bytealg.CountString", "internal/bytealg.IndexByteString", "internal/bytealg.IndexString"], unfollowed := true, recurses := true, named := ["unicode/utf8.first", "unicode/utf8.acceptRanges", "internal/bytealg.MaxLen", "math/bits.deBruijn64tab"], plainKeys := false, apart := false, laid := [("math/bits.deBruijn64tab", laid_math_bits_deBruijn64tab), ("unicode/utf8.acceptRanges", laid_unicode_utf8_acceptRanges), ("unicode/utf8.first", laid_unicode_utf8_first)], narrowed := true }
def ComposeBadUptoSaid : Prop := composeBadUptoRow.holds Tryz.pinned (OpenSpec.upto composeBadSpec)

/-- 'farandolelaw27.ComposeProgress', WHERE WHAT IT READS IS OF BULK AT MOST 1048576: true; the input reads as it did. -/
def composeProgressUptoRow : OpenClaim := { program := "ytnfkibjnkiojnaagreatdoor", sum := "e95bd1ac57cffbbed1c11d4a83396d721efc6f059fff264f13652c7c3cc4e9ca", func := "farandole/farandolelaw27.ComposeProgress", spec := "composeProgress", inPlace := ["internal/bytealg.CountString", "internal/bytealg.IndexByteString", "internal/bytealg.IndexString"], unfollowed := true, recurses := true, named := ["unicode/utf8.first", "unicode/utf8.acceptRanges", "internal/bytealg.MaxLen", "math/bits.deBruijn64tab"], plainKeys := false, apart := false, laid := [("math/bits.deBruijn64tab", laid_math_bits_deBruijn64tab), ("unicode/utf8.acceptRanges", laid_unicode_utf8_acceptRanges), ("unicode/utf8.first", laid_unicode_utf8_first)], narrowed := true }
def ComposeProgressUptoSaid : Prop := composeProgressUptoRow.holds Tryz.pinned (OpenSpec.upto composeProgressSpec)

/-- 'farandolelaw27.ComposeFidelity', WHERE WHAT IT READS IS OF BULK AT MOST 1048576: true; the input reads as it did. -/
def composeFidelityUptoRow : OpenClaim := { program := "ytnfkibjnkiojnaagreatdoor", sum := "e95bd1ac57cffbbed1c11d4a83396d721efc6f059fff264f13652c7c3cc4e9ca", func := "farandole/farandolelaw27.ComposeFidelity", spec := "composeFidelity", inPlace := ["internal/bytealg.CountString", "internal/bytealg.IndexByteString", "internal/bytealg.IndexString"], unfollowed := true, recurses := true, named := ["unicode/utf8.first", "unicode/utf8.acceptRanges", "internal/bytealg.MaxLen", "math/bits.deBruijn64tab"], plainKeys := false, apart := false, laid := [("math/bits.deBruijn64tab", laid_math_bits_deBruijn64tab), ("unicode/utf8.acceptRanges", laid_unicode_utf8_acceptRanges), ("unicode/utf8.first", laid_unicode_utf8_first)], narrowed := true }
def ComposeFidelityUptoSaid : Prop := composeFidelityUptoRow.holds Tryz.pinned (OpenSpec.upto composeFidelitySpec)

end Rows
end Go.Proofs.YtnfkibjnkiojnaaGreatDoor
