/-
  NARROWER THAN 'FOR EVERY INPUT', by the rows' own cells (each row's printed sentence says how): RealizeCheck: laid · RealizeTwo: laid · RealizeAll: laid · RealizePairs: laid · RealizeRoles: laid · RealizeShort: laid · RealizeSends: laid · RealizeNumbers: laid · RealizeViews: laid.
  DERIVED. THE GIVEN ROWS OF THIS SEAT. 9 by the template 'for every input the law returns true; each argument reads behind the call as it read before'; 0 by the template 'total and deterministic' (their statements: YtajglkbckhgboaaGreatDoorTotals.lean).
  GIVEN WITH THE SEED: the statements are not yours to turn. If you find one false, say at which input.
  Laid BY PROGRAM, IN A SANDBOX (cutbox-rows.mjs): the forced cells as the released guide's own fill.sh prints them over the translation 0ee8d1ee19b9e812… (all of the seat's roots in one cut). By AI agents, Wed Nov 11 2026. No macro, syntax, notation, axiom, sorry.
-/
import Derived.Test.YtajglkbckhgboaaGreatDoorChecked
import GoSem.PinnedTables
import GoSem.Claim
import GoSem.ClaimJoined
import GoSem.ClaimMapViews
import Derived.JoinedTies
import Derived.KernelRfl
namespace Go.Proofs.YtajglkbckhgboaaGreatDoor
/- THE CELL 'sum', in the pinned program and in every row, IS THE sha256 OF THE DUMP (.gsa) THAT YtajglkbckhgboaaGreatDoorProg.lean LOADS. Nothing in Lean hashes anything: it is a label: what it is worth is what the hold of that sum in a sandbox is worth. -/
noncomputable def Tryz.pinned : Pinned := { name := "ytajglkbckhgboaagreatdoor", sum := "0ee8d1ee19b9e812a04aad8ea3bfffdf263628b7bfeeb862386e61ba92e27f6d", checked := Tryz.checked }
namespace Rows
def none {H : Type} : Left H := { results := [], args := [] }

/- WHAT THE LISTED PACKAGE-LEVEL VARIABLES READ AS WHEN THE CALL BEGINS. Each datum BY PROGRAM (the guide's laid-datum.mjs) off the statement by which the dump's own 'gosem.cut.vars' lays the variable. In a bare row this is a premise. The card (YtajglkbckhgboaaGreatDoorCards.lean) ties it to the program's text. -/
def laid_unicode_utf8_acceptRanges {H : Type} : DataW H := .agg [.agg [.lit (.int .u8 128), .lit (.int .u8 191)], .agg [.lit (.int .u8 160), .lit (.int .u8 191)], .agg [.lit (.int .u8 128), .lit (.int .u8 159)], .agg [.lit (.int .u8 144), .lit (.int .u8 191)], .agg [.lit (.int .u8 128), .lit (.int .u8 143)], .agg [.lit (.int .u8 0), .lit (.int .u8 0)], .agg [.lit (.int .u8 0), .lit (.int .u8 0)], .agg [.lit (.int .u8 0), .lit (.int .u8 0)], .agg [.lit (.int .u8 0), .lit (.int .u8 0)], .agg [.lit (.int .u8 0), .lit (.int .u8 0)], .agg [.lit (.int .u8 0), .lit (.int .u8 0)], .agg [.lit (.int .u8 0), .lit (.int .u8 0)], .agg [.lit (.int .u8 0), .lit (.int .u8 0)], .agg [.lit (.int .u8 0), .lit (.int .u8 0)], .agg [.lit (.int .u8 0), .lit (.int .u8 0)], .agg [.lit (.int .u8 0), .lit (.int .u8 0)]]
/-- One of Go's own tables, pinned by name: the form's constant. -/
def laid_unicode_utf8_first : DataW Unit := Go.Pinned.utf8First
def laid_math_bits_deBruijn64tab {H : Type} : DataW H := .agg [.lit (.int .u8 0), .lit (.int .u8 1), .lit (.int .u8 56), .lit (.int .u8 2), .lit (.int .u8 57), .lit (.int .u8 49), .lit (.int .u8 28), .lit (.int .u8 3), .lit (.int .u8 61), .lit (.int .u8 58), .lit (.int .u8 42), .lit (.int .u8 50), .lit (.int .u8 38), .lit (.int .u8 29), .lit (.int .u8 17), .lit (.int .u8 4), .lit (.int .u8 62), .lit (.int .u8 47), .lit (.int .u8 59), .lit (.int .u8 36), .lit (.int .u8 45), .lit (.int .u8 43), .lit (.int .u8 51), .lit (.int .u8 22), .lit (.int .u8 53), .lit (.int .u8 39), .lit (.int .u8 33), .lit (.int .u8 30), .lit (.int .u8 24), .lit (.int .u8 18), .lit (.int .u8 12), .lit (.int .u8 5), .lit (.int .u8 63), .lit (.int .u8 55), .lit (.int .u8 48), .lit (.int .u8 27), .lit (.int .u8 60), .lit (.int .u8 41), .lit (.int .u8 37), .lit (.int .u8 16), .lit (.int .u8 46), .lit (.int .u8 35), .lit (.int .u8 44), .lit (.int .u8 21), .lit (.int .u8 52), .lit (.int .u8 32), .lit (.int .u8 23), .lit (.int .u8 11), .lit (.int .u8 54), .lit (.int .u8 26), .lit (.int .u8 40), .lit (.int .u8 15), .lit (.int .u8 34), .lit (.int .u8 20), .lit (.int .u8 31), .lit (.int .u8 10), .lit (.int .u8 25), .lit (.int .u8 14), .lit (.int .u8 19), .lit (.int .u8 9), .lit (.int .u8 13), .lit (.int .u8 8), .lit (.int .u8 7), .lit (.int .u8 6)]

/-- 'farandolelaw23.RealizeCheck': WHATEVER THE INPUT: true; the input reads as it did. -/
def realizeCheckSpec : ChangeSpec := { name := "realizeCheck", fn := fun _ => fun
  | [d] => { results := [.lit (.bool true)], args := [d] }
  | _ => none }
def realizeCheckRow : OpenClaim := { program := "ytajglkbckhgboaagreatdoor", sum := "0ee8d1ee19b9e812a04aad8ea3bfffdf263628b7bfeeb862386e61ba92e27f6d", func := "farandole/farandolelaw23.RealizeCheck", spec := "realizeCheck", inPlace := ["internal/bytealg.CountString", "internal/bytealg.IndexByteString", "internal/bytealg.IndexString"], unfollowed := true, recurses := true, named := ["unicode/utf8.first", "unicode/utf8.acceptRanges", "internal/bytealg.MaxLen"], plainKeys := false, apart := false, laid := [("unicode/utf8.acceptRanges", laid_unicode_utf8_acceptRanges), ("unicode/utf8.first", laid_unicode_utf8_first)] }
def RealizeCheckSaid : Prop := realizeCheckRow.holds Tryz.pinned (OpenSpec.ofChange realizeCheckSpec)

/-- ITS FALSE NEIGHBOUR: 'it returns false'. Refute it at one input. -/
def realizeCheckWrong : ChangeSpec := { name := "realizeCheck", fn := fun _ => fun
  | [d] => { results := [.lit (.bool false)], args := [d] }
  | _ => none }
def RealizeCheckWrongFalsely : Prop := realizeCheckRow.holds Tryz.pinned (OpenSpec.ofChange realizeCheckWrong)

/-- 'farandolelaw23.RealizeTwo': WHATEVER THE INPUT: true; the input reads as it did. -/
def realizeTwoSpec : ChangeSpec := { name := "realizeTwo", fn := fun _ => fun
  | [d] => { results := [.lit (.bool true)], args := [d] }
  | _ => none }
def realizeTwoRow : OpenClaim := { program := "ytajglkbckhgboaagreatdoor", sum := "0ee8d1ee19b9e812a04aad8ea3bfffdf263628b7bfeeb862386e61ba92e27f6d", func := "farandole/farandolelaw23.RealizeTwo", spec := "realizeTwo", inPlace := ["internal/bytealg.CountString", "internal/bytealg.IndexByteString", "internal/bytealg.IndexString"], unfollowed := true, recurses := true, named := ["unicode/utf8.first", "unicode/utf8.acceptRanges", "internal/bytealg.MaxLen"], plainKeys := false, apart := false, laid := [("unicode/utf8.acceptRanges", laid_unicode_utf8_acceptRanges), ("unicode/utf8.first", laid_unicode_utf8_first)] }
def RealizeTwoSaid : Prop := realizeTwoRow.holds Tryz.pinned (OpenSpec.ofChange realizeTwoSpec)

/-- ITS FALSE NEIGHBOUR: 'it returns false'. Refute it at one input. -/
def realizeTwoWrong : ChangeSpec := { name := "realizeTwo", fn := fun _ => fun
  | [d] => { results := [.lit (.bool false)], args := [d] }
  | _ => none }
def RealizeTwoWrongFalsely : Prop := realizeTwoRow.holds Tryz.pinned (OpenSpec.ofChange realizeTwoWrong)

/-- 'farandolelaw23.RealizeAll': WHATEVER THE INPUT: true; the input reads as it did. -/
def realizeAllSpec : ChangeSpec := { name := "realizeAll", fn := fun _ => fun
  | [d] => { results := [.lit (.bool true)], args := [d] }
  | _ => none }
def realizeAllRow : OpenClaim := { program := "ytajglkbckhgboaagreatdoor", sum := "0ee8d1ee19b9e812a04aad8ea3bfffdf263628b7bfeeb862386e61ba92e27f6d", func := "farandole/farandolelaw23.RealizeAll", spec := "realizeAll", inPlace := ["internal/bytealg.CountString", "internal/bytealg.IndexByteString", "internal/bytealg.IndexString"], unfollowed := true, recurses := true, named := ["unicode/utf8.first", "unicode/utf8.acceptRanges", "internal/bytealg.MaxLen"], plainKeys := false, apart := false, laid := [("unicode/utf8.acceptRanges", laid_unicode_utf8_acceptRanges), ("unicode/utf8.first", laid_unicode_utf8_first)] }
def RealizeAllSaid : Prop := realizeAllRow.holds Tryz.pinned (OpenSpec.ofChange realizeAllSpec)

/-- ITS FALSE NEIGHBOUR: 'it returns false'. Refute it at one input. -/
def realizeAllWrong : ChangeSpec := { name := "realizeAll", fn := fun _ => fun
  | [d] => { results := [.lit (.bool false)], args := [d] }
  | _ => none }
def RealizeAllWrongFalsely : Prop := realizeAllRow.holds Tryz.pinned (OpenSpec.ofChange realizeAllWrong)

/-- 'farandolelaw23.RealizePairs': WHATEVER THE INPUT: true; the input reads as it did. -/
def realizePairsSpec : ChangeSpec := { name := "realizePairs", fn := fun _ => fun
  | [d1, d2, d3] => { results := [.lit (.bool true)], args := [d1, d2, d3] }
  | _ => none }
def realizePairsRow : OpenClaim := { program := "ytajglkbckhgboaagreatdoor", sum := "0ee8d1ee19b9e812a04aad8ea3bfffdf263628b7bfeeb862386e61ba92e27f6d", func := "farandole/farandolelaw23.RealizePairs", spec := "realizePairs", inPlace := ["internal/bytealg.CountString", "internal/bytealg.IndexByteString", "internal/bytealg.IndexString"], unfollowed := true, recurses := true, named := ["unicode/utf8.first", "unicode/utf8.acceptRanges", "internal/bytealg.MaxLen"], plainKeys := false, apart := false, laid := [("unicode/utf8.acceptRanges", laid_unicode_utf8_acceptRanges), ("unicode/utf8.first", laid_unicode_utf8_first)] }
def RealizePairsSaid : Prop := realizePairsRow.holds Tryz.pinned (OpenSpec.ofChange realizePairsSpec)

/-- ITS FALSE NEIGHBOUR: 'it returns false'. Refute it at one input. -/
def realizePairsWrong : ChangeSpec := { name := "realizePairs", fn := fun _ => fun
  | [d1, d2, d3] => { results := [.lit (.bool false)], args := [d1, d2, d3] }
  | _ => none }
def RealizePairsWrongFalsely : Prop := realizePairsRow.holds Tryz.pinned (OpenSpec.ofChange realizePairsWrong)

/-- 'farandolelaw23.RealizeRoles': WHATEVER THE INPUT: true; the input reads as it did. -/
def realizeRolesSpec : ChangeSpec := { name := "realizeRoles", fn := fun _ => fun
  | [d1, d2] => { results := [.lit (.bool true)], args := [d1, d2] }
  | _ => none }
def realizeRolesRow : OpenClaim := { program := "ytajglkbckhgboaagreatdoor", sum := "0ee8d1ee19b9e812a04aad8ea3bfffdf263628b7bfeeb862386e61ba92e27f6d", func := "farandole/farandolelaw23.RealizeRoles", spec := "realizeRoles", inPlace := ["internal/bytealg.CountString", "internal/bytealg.IndexByteString", "internal/bytealg.IndexString"], unfollowed := true, recurses := true, named := ["unicode/utf8.first", "unicode/utf8.acceptRanges", "internal/bytealg.MaxLen"], plainKeys := false, apart := false, laid := [("unicode/utf8.acceptRanges", laid_unicode_utf8_acceptRanges), ("unicode/utf8.first", laid_unicode_utf8_first)] }
def RealizeRolesSaid : Prop := realizeRolesRow.holds Tryz.pinned (OpenSpec.ofChange realizeRolesSpec)

/-- ITS FALSE NEIGHBOUR: 'it returns false'. Refute it at one input. -/
def realizeRolesWrong : ChangeSpec := { name := "realizeRoles", fn := fun _ => fun
  | [d1, d2] => { results := [.lit (.bool false)], args := [d1, d2] }
  | _ => none }
def RealizeRolesWrongFalsely : Prop := realizeRolesRow.holds Tryz.pinned (OpenSpec.ofChange realizeRolesWrong)

/-- 'farandolelaw23.RealizeShort': WHATEVER THE INPUT: true; the input reads as it did. -/
def realizeShortSpec : ChangeSpec := { name := "realizeShort", fn := fun _ => fun
  | [d1, d2, d3] => { results := [.lit (.bool true)], args := [d1, d2, d3] }
  | _ => none }
def realizeShortRow : OpenClaim := { program := "ytajglkbckhgboaagreatdoor", sum := "0ee8d1ee19b9e812a04aad8ea3bfffdf263628b7bfeeb862386e61ba92e27f6d", func := "farandole/farandolelaw23.RealizeShort", spec := "realizeShort", inPlace := ["internal/bytealg.CountString", "internal/bytealg.IndexByteString", "internal/bytealg.IndexString"], unfollowed := true, recurses := true, named := ["unicode/utf8.first", "unicode/utf8.acceptRanges", "internal/bytealg.MaxLen", "math/bits.deBruijn64tab"], plainKeys := false, apart := false, laid := [("math/bits.deBruijn64tab", laid_math_bits_deBruijn64tab), ("unicode/utf8.acceptRanges", laid_unicode_utf8_acceptRanges), ("unicode/utf8.first", laid_unicode_utf8_first)] }
def RealizeShortSaid : Prop := realizeShortRow.holds Tryz.pinned (OpenSpec.ofChange realizeShortSpec)

/-- ITS FALSE NEIGHBOUR: 'it returns false'. Refute it at one input. -/
def realizeShortWrong : ChangeSpec := { name := "realizeShort", fn := fun _ => fun
  | [d1, d2, d3] => { results := [.lit (.bool false)], args := [d1, d2, d3] }
  | _ => none }
def RealizeShortWrongFalsely : Prop := realizeShortRow.holds Tryz.pinned (OpenSpec.ofChange realizeShortWrong)

/-- 'farandolelaw23.RealizeSends': WHATEVER THE INPUT: true; the input reads as it did. -/
def realizeSendsSpec : ChangeSpec := { name := "realizeSends", fn := fun _ => fun
  | [d1, d2, d3] => { results := [.lit (.bool true)], args := [d1, d2, d3] }
  | _ => none }
def realizeSendsRow : OpenClaim := { program := "ytajglkbckhgboaagreatdoor", sum := "0ee8d1ee19b9e812a04aad8ea3bfffdf263628b7bfeeb862386e61ba92e27f6d", func := "farandole/farandolelaw23.RealizeSends", spec := "realizeSends", inPlace := ["internal/bytealg.CountString", "internal/bytealg.IndexByteString", "internal/bytealg.IndexString"], unfollowed := true, recurses := true, named := ["unicode/utf8.first", "unicode/utf8.acceptRanges", "internal/bytealg.MaxLen", "math/bits.deBruijn64tab"], plainKeys := false, apart := false, laid := [("math/bits.deBruijn64tab", laid_math_bits_deBruijn64tab), ("unicode/utf8.acceptRanges", laid_unicode_utf8_acceptRanges), ("unicode/utf8.first", laid_unicode_utf8_first)] }
def RealizeSendsSaid : Prop := realizeSendsRow.holds Tryz.pinned (OpenSpec.ofChange realizeSendsSpec)

/-- ITS FALSE NEIGHBOUR: 'it returns false'. Refute it at one input. -/
def realizeSendsWrong : ChangeSpec := { name := "realizeSends", fn := fun _ => fun
  | [d1, d2, d3] => { results := [.lit (.bool false)], args := [d1, d2, d3] }
  | _ => none }
def RealizeSendsWrongFalsely : Prop := realizeSendsRow.holds Tryz.pinned (OpenSpec.ofChange realizeSendsWrong)

/-- 'farandolelaw23.RealizeNumbers': WHATEVER THE INPUT: true; the input reads as it did. -/
def realizeNumbersSpec : ChangeSpec := { name := "realizeNumbers", fn := fun _ => fun
  | [d] => { results := [.lit (.bool true)], args := [d] }
  | _ => none }
def realizeNumbersRow : OpenClaim := { program := "ytajglkbckhgboaagreatdoor", sum := "0ee8d1ee19b9e812a04aad8ea3bfffdf263628b7bfeeb862386e61ba92e27f6d", func := "farandole/farandolelaw23.RealizeNumbers", spec := "realizeNumbers", inPlace := ["internal/bytealg.CountString", "internal/bytealg.IndexByteString", "internal/bytealg.IndexString"], unfollowed := true, recurses := true, named := ["unicode/utf8.first", "unicode/utf8.acceptRanges", "internal/bytealg.MaxLen"], plainKeys := false, apart := false, laid := [("unicode/utf8.acceptRanges", laid_unicode_utf8_acceptRanges), ("unicode/utf8.first", laid_unicode_utf8_first)] }
def RealizeNumbersSaid : Prop := realizeNumbersRow.holds Tryz.pinned (OpenSpec.ofChange realizeNumbersSpec)

/-- ITS FALSE NEIGHBOUR: 'it returns false'. Refute it at one input. -/
def realizeNumbersWrong : ChangeSpec := { name := "realizeNumbers", fn := fun _ => fun
  | [d] => { results := [.lit (.bool false)], args := [d] }
  | _ => none }
def RealizeNumbersWrongFalsely : Prop := realizeNumbersRow.holds Tryz.pinned (OpenSpec.ofChange realizeNumbersWrong)

/-- 'farandolelaw23.RealizeViews': WHATEVER THE INPUT: true; the input reads as it did. -/
def realizeViewsSpec : ChangeSpec := { name := "realizeViews", fn := fun _ => fun
  | [d1, d2] => { results := [.lit (.bool true)], args := [d1, d2] }
  | _ => none }
def realizeViewsRow : OpenClaim := { program := "ytajglkbckhgboaagreatdoor", sum := "0ee8d1ee19b9e812a04aad8ea3bfffdf263628b7bfeeb862386e61ba92e27f6d", func := "farandole/farandolelaw23.RealizeViews", spec := "realizeViews", inPlace := ["internal/bytealg.CountString", "internal/bytealg.IndexByteString", "internal/bytealg.IndexString"], unfollowed := true, recurses := true, named := ["unicode/utf8.first", "unicode/utf8.acceptRanges", "internal/bytealg.MaxLen", "math/bits.deBruijn64tab"], plainKeys := false, apart := false, laid := [("math/bits.deBruijn64tab", laid_math_bits_deBruijn64tab), ("unicode/utf8.acceptRanges", laid_unicode_utf8_acceptRanges), ("unicode/utf8.first", laid_unicode_utf8_first)] }
def RealizeViewsSaid : Prop := realizeViewsRow.holds Tryz.pinned (OpenSpec.ofChange realizeViewsSpec)

/-- ITS FALSE NEIGHBOUR: 'it returns false'. Refute it at one input. -/
def realizeViewsWrong : ChangeSpec := { name := "realizeViews", fn := fun _ => fun
  | [d1, d2] => { results := [.lit (.bool false)], args := [d1, d2] }
  | _ => none }
def RealizeViewsWrongFalsely : Prop := realizeViewsRow.holds Tryz.pinned (OpenSpec.ofChange realizeViewsWrong)

/- THE SECOND FORM. 'bulk': how many values and letters a reading holds, each counted each time it is reached (what is shared counts as often as it is met; a slice's spare places count too). A statement '..UptoSaid' is the law's where the arguments, and the package variables that the reading takes, are together of bulk at most 1048576: NARROWER than '..Said'. Prove '..Said' where nothing that the law and all that it calls make is longer than what came in: it says more and counts as full. Else prove '..UptoSaid'. A law counts once. -/
mutual
def uptoBulk {H : Type} : DataW H → Nat
  | .lit (.string bytes) => bytes.length + 1
  | .lit _ => 1
  | .nil => 1
  | .ptr d => uptoBulk d + 1
  | .slice elems spare => uptoBulkAll elems + uptoBulkAll spare + 1
  | .agg parts => uptoBulkAll parts + 1
  | .iface _ d => uptoBulk d + 1
  | .map entries => uptoBulkEntries entries + 1
  | .held _ => 1
def uptoBulkAll {H : Type} : List (DataW H) → Nat
  | [] => 0
  | d :: r => uptoBulk d + uptoBulkAll r
def uptoBulkEntries {H : Type} : List (Lit × DataW H) → Nat
  | [] => 0
  | x :: r => uptoBulkEntry x + uptoBulkEntries r
def uptoBulkEntry {H : Type} : Lit × DataW H → Nat
  | (.string bytes, d) => bytes.length + uptoBulk d + 1
  | (_, d) => uptoBulk d + 1
 end
def uptoSmall : (H : Type) → List (DataW H) → Bool := fun _ ds => decide (uptoBulkAll ds ≤ 1048576)
def OpenSpec.upto (s : _root_.Go.ChangeSpec) : _root_.Go.OpenSpec := { _root_.Go.OpenSpec.ofChange s with cond := some uptoSmall }

/-- 'farandolelaw23.RealizeCheck', WHERE WHAT IT READS IS OF BULK AT MOST 1048576: true; the input reads as it did. -/
def realizeCheckUptoRow : OpenClaim := { program := "ytajglkbckhgboaagreatdoor", sum := "0ee8d1ee19b9e812a04aad8ea3bfffdf263628b7bfeeb862386e61ba92e27f6d", func := "farandole/farandolelaw23.RealizeCheck", spec := "realizeCheck", inPlace := ["internal/bytealg.CountString", "internal/bytealg.IndexByteString", "internal/bytealg.IndexString"], unfollowed := true, recurses := true, named := ["unicode/utf8.first", "unicode/utf8.acceptRanges", "internal/bytealg.MaxLen"], plainKeys := false, apart := false, laid := [("unicode/utf8.acceptRanges", laid_unicode_utf8_acceptRanges), ("unicode/utf8.first", laid_unicode_utf8_first)], narrowed := true }
def RealizeCheckUptoSaid : Prop := realizeCheckUptoRow.holds Tryz.pinned (OpenSpec.upto realizeCheckSpec)

/-- 'farandolelaw23.RealizeTwo', WHERE WHAT IT READS IS OF BULK AT MOST 1048576: true; the input reads as it did. -/
def realizeTwoUptoRow : OpenClaim := { program := "ytajglkbckhgboaagreatdoor", sum := "0ee8d1ee19b9e812a04aad8ea3bfffdf263628b7bfeeb862386e61ba92e27f6d", func := "farandole/farandolelaw23.RealizeTwo", spec := "realizeTwo", inPlace := ["internal/bytealg.CountString", "internal/bytealg.IndexByteString", "internal/bytealg.IndexString"], unfollowed := true, recurses := true, named := ["unicode/utf8.first", "unicode/utf8.acceptRanges", "internal/bytealg.MaxLen"], plainKeys := false, apart := false, laid := [("unicode/utf8.acceptRanges", laid_unicode_utf8_acceptRanges), ("unicode/utf8.first", laid_unicode_utf8_first)], narrowed := true }
def RealizeTwoUptoSaid : Prop := realizeTwoUptoRow.holds Tryz.pinned (OpenSpec.upto realizeTwoSpec)

/-- 'farandolelaw23.RealizeAll', WHERE WHAT IT READS IS OF BULK AT MOST 1048576: true; the input reads as it did. -/
def realizeAllUptoRow : OpenClaim := { program := "ytajglkbckhgboaagreatdoor", sum := "0ee8d1ee19b9e812a04aad8ea3bfffdf263628b7bfeeb862386e61ba92e27f6d", func := "farandole/farandolelaw23.RealizeAll", spec := "realizeAll", inPlace := ["internal/bytealg.CountString", "internal/bytealg.IndexByteString", "internal/bytealg.IndexString"], unfollowed := true, recurses := true, named := ["unicode/utf8.first", "unicode/utf8.acceptRanges", "internal/bytealg.MaxLen"], plainKeys := false, apart := false, laid := [("unicode/utf8.acceptRanges", laid_unicode_utf8_acceptRanges), ("unicode/utf8.first", laid_unicode_utf8_first)], narrowed := true }
def RealizeAllUptoSaid : Prop := realizeAllUptoRow.holds Tryz.pinned (OpenSpec.upto realizeAllSpec)

/-- 'farandolelaw23.RealizePairs', WHERE WHAT IT READS IS OF BULK AT MOST 1048576: true; the input reads as it did. -/
def realizePairsUptoRow : OpenClaim := { program := "ytajglkbckhgboaagreatdoor", sum := "0ee8d1ee19b9e812a04aad8ea3bfffdf263628b7bfeeb862386e61ba92e27f6d", func := "farandole/farandolelaw23.RealizePairs", spec := "realizePairs", inPlace := ["internal/bytealg.CountString", "internal/bytealg.IndexByteString", "internal/bytealg.IndexString"], unfollowed := true, recurses := true, named := ["unicode/utf8.first", "unicode/utf8.acceptRanges", "internal/bytealg.MaxLen"], plainKeys := false, apart := false, laid := [("unicode/utf8.acceptRanges", laid_unicode_utf8_acceptRanges), ("unicode/utf8.first", laid_unicode_utf8_first)], narrowed := true }
def RealizePairsUptoSaid : Prop := realizePairsUptoRow.holds Tryz.pinned (OpenSpec.upto realizePairsSpec)

/-- 'farandolelaw23.RealizeRoles', WHERE WHAT IT READS IS OF BULK AT MOST 1048576: true; the input reads as it did. -/
def realizeRolesUptoRow : OpenClaim := { program := "ytajglkbckhgboaagreatdoor", sum := "0ee8d1ee19b9e812a04aad8ea3bfffdf263628b7bfeeb862386e61ba92e27f6d", func := "farandole/farandolelaw23.RealizeRoles", spec := "realizeRoles", inPlace := ["internal/bytealg.CountString", "internal/bytealg.IndexByteString", "internal/bytealg.IndexString"], unfollowed := true, recurses := true, named := ["unicode/utf8.first", "unicode/utf8.acceptRanges", "internal/bytealg.MaxLen"], plainKeys := false, apart := false, laid := [("unicode/utf8.acceptRanges", laid_unicode_utf8_acceptRanges), ("unicode/utf8.first", laid_unicode_utf8_first)], narrowed := true }
def RealizeRolesUptoSaid : Prop := realizeRolesUptoRow.holds Tryz.pinned (OpenSpec.upto realizeRolesSpec)

/-- 'farandolelaw23.RealizeShort', WHERE WHAT IT READS IS OF BULK AT MOST 1048576: true; the input reads as it did. -/
def realizeShortUptoRow : OpenClaim := { program := "ytajglkbckhgboaagreatdoor", sum := "0ee8d1ee19b9e812a04aad8ea3bfffdf263628b7bfeeb862386e61ba92e27f6d", func := "farandole/farandolelaw23.RealizeShort", spec := "realizeShort", inPlace := ["internal/bytealg.CountString", "internal/bytealg.IndexByteString", "internal/bytealg.IndexString"], unfollowed := true, recurses := true, named := ["unicode/utf8.first", "unicode/utf8.acceptRanges", "internal/bytealg.MaxLen", "math/bits.deBruijn64tab"], plainKeys := false, apart := false, laid := [("math/bits.deBruijn64tab", laid_math_bits_deBruijn64tab), ("unicode/utf8.acceptRanges", laid_unicode_utf8_acceptRanges), ("unicode/utf8.first", laid_unicode_utf8_first)], narrowed := true }
def RealizeShortUptoSaid : Prop := realizeShortUptoRow.holds Tryz.pinned (OpenSpec.upto realizeShortSpec)

/-- 'farandolelaw23.RealizeSends', WHERE WHAT IT READS IS OF BULK AT MOST 1048576: true; the input reads as it did. -/
def realizeSendsUptoRow : OpenClaim := { program := "ytajglkbckhgboaagreatdoor", sum := "0ee8d1ee19b9e812a04aad8ea3bfffdf263628b7bfeeb862386e61ba92e27f6d", func := "farandole/farandolelaw23.RealizeSends", spec := "realizeSends", inPlace := ["internal/bytealg.CountString", "internal/bytealg.IndexByteString", "internal/bytealg.IndexString"], unfollowed := true, recurses := true, named := ["unicode/utf8.first", "unicode/utf8.acceptRanges", "internal/bytealg.MaxLen", "math/bits.deBruijn64tab"], plainKeys := false, apart := false, laid := [("math/bits.deBruijn64tab", laid_math_bits_deBruijn64tab), ("unicode/utf8.acceptRanges", laid_unicode_utf8_acceptRanges), ("unicode/utf8.first", laid_unicode_utf8_first)], narrowed := true }
def RealizeSendsUptoSaid : Prop := realizeSendsUptoRow.holds Tryz.pinned (OpenSpec.upto realizeSendsSpec)

/-- 'farandolelaw23.RealizeNumbers', WHERE WHAT IT READS IS OF BULK AT MOST 1048576: true; the input reads as it did. -/
def realizeNumbersUptoRow : OpenClaim := { program := "ytajglkbckhgboaagreatdoor", sum := "0ee8d1ee19b9e812a04aad8ea3bfffdf263628b7bfeeb862386e61ba92e27f6d", func := "farandole/farandolelaw23.RealizeNumbers", spec := "realizeNumbers", inPlace := ["internal/bytealg.CountString", "internal/bytealg.IndexByteString", "internal/bytealg.IndexString"], unfollowed := true, recurses := true, named := ["unicode/utf8.first", "unicode/utf8.acceptRanges", "internal/bytealg.MaxLen"], plainKeys := false, apart := false, laid := [("unicode/utf8.acceptRanges", laid_unicode_utf8_acceptRanges), ("unicode/utf8.first", laid_unicode_utf8_first)], narrowed := true }
def RealizeNumbersUptoSaid : Prop := realizeNumbersUptoRow.holds Tryz.pinned (OpenSpec.upto realizeNumbersSpec)

/-- 'farandolelaw23.RealizeViews', WHERE WHAT IT READS IS OF BULK AT MOST 1048576: true; the input reads as it did. -/
def realizeViewsUptoRow : OpenClaim := { program := "ytajglkbckhgboaagreatdoor", sum := "0ee8d1ee19b9e812a04aad8ea3bfffdf263628b7bfeeb862386e61ba92e27f6d", func := "farandole/farandolelaw23.RealizeViews", spec := "realizeViews", inPlace := ["internal/bytealg.CountString", "internal/bytealg.IndexByteString", "internal/bytealg.IndexString"], unfollowed := true, recurses := true, named := ["unicode/utf8.first", "unicode/utf8.acceptRanges", "internal/bytealg.MaxLen", "math/bits.deBruijn64tab"], plainKeys := false, apart := false, laid := [("math/bits.deBruijn64tab", laid_math_bits_deBruijn64tab), ("unicode/utf8.acceptRanges", laid_unicode_utf8_acceptRanges), ("unicode/utf8.first", laid_unicode_utf8_first)], narrowed := true }
def RealizeViewsUptoSaid : Prop := realizeViewsUptoRow.holds Tryz.pinned (OpenSpec.upto realizeViewsSpec)

end Rows
end Go.Proofs.YtajglkbckhgboaaGreatDoor
