/-
  No cell of these rows narrows 'for every input' (looked for: loops, veiled, ifaces, maps, wideKeys, modest, calm, conditions, laid).
  DERIVED. THE GIVEN ROWS OF THIS SEAT. 7 by the template 'for every input the law returns true; each argument reads behind the call as it read before'; 0 by the template 'total and deterministic' (their statements: YtpelfojmncfonaaTotals.lean).
  GIVEN WITH THE SEED: the statements are not yours to turn. If you find one false, say at which input.
  Laid BY PROGRAM, IN A SANDBOX (cutbox-rows.mjs): the forced cells as the released guide's own fill.sh prints them over the translation 7b60e4d824fc9ef0… (all of the seat's roots in one cut). By AI agents, Wed Nov 11 2026. No macro, syntax, notation, axiom, sorry.
-/
import Derived.Test.YtpelfojmncfonaaChecked
import GoSem.Claim
import GoSem.ClaimJoined
import GoSem.ClaimMapViews
import Derived.JoinedTies
import Derived.KernelRfl
namespace Go.Proofs.Ytpelfojmncfonaa
/- THE CELL 'sum', in the pinned program and in every row, IS THE sha256 OF THE DUMP (.gsa) THAT YtpelfojmncfonaaProg.lean LOADS. Nothing in Lean hashes anything: it is a label: what it is worth is what the hold of that sum in a sandbox is worth. -/
noncomputable def Try.pinned : Pinned := { name := "ytpelfojmncfonaa", sum := "7b60e4d824fc9ef0a51b596da080d5d13019e35fe86722c9a97384d6bd439555", checked := Try.checked }
namespace Rows
def none {H : Type} : Left H := { results := [], args := [] }

/-- 'farandolelaw09.LexTokens': WHATEVER THE INPUT: true; the input reads as it did. -/
def lexTokensSpec : ChangeSpec := { name := "lexTokens", fn := fun _ => fun
  | [d] => { results := [.lit (.bool true)], args := [d] }
  | _ => none }
def lexTokensRow : OpenClaim := { program := "ytpelfojmncfonaa", sum := "7b60e4d824fc9ef0a51b596da080d5d13019e35fe86722c9a97384d6bd439555", func := "farandole/farandolelaw09.LexTokens", spec := "lexTokens", inPlace := ["internal/bytealg.IndexByteString", "internal/bytealg.IndexString"], unfollowed := true, recurses := true, named := ["internal/bytealg.MaxLen"], apart := false }
def LexTokensSaid : Prop := lexTokensRow.holds Try.pinned (OpenSpec.ofChange lexTokensSpec)

/-- ITS FALSE NEIGHBOUR: 'it returns false'. Refute it at one input. -/
def lexTokensWrong : ChangeSpec := { name := "lexTokens", fn := fun _ => fun
  | [d] => { results := [.lit (.bool false)], args := [d] }
  | _ => none }
def LexTokensWrongFalsely : Prop := lexTokensRow.holds Try.pinned (OpenSpec.ofChange lexTokensWrong)

/-- 'farandolelaw09.LexPlaces': WHATEVER THE INPUT: true; the input reads as it did. -/
def lexPlacesSpec : ChangeSpec := { name := "lexPlaces", fn := fun _ => fun
  | [d1, d2] => { results := [.lit (.bool true)], args := [d1, d2] }
  | _ => none }
def lexPlacesRow : OpenClaim := { program := "ytpelfojmncfonaa", sum := "7b60e4d824fc9ef0a51b596da080d5d13019e35fe86722c9a97384d6bd439555", func := "farandole/farandolelaw09.LexPlaces", spec := "lexPlaces", inPlace := ["internal/bytealg.IndexByteString", "internal/bytealg.IndexString"], unfollowed := true, recurses := true, named := ["internal/bytealg.MaxLen"], apart := false }
def LexPlacesSaid : Prop := lexPlacesRow.holds Try.pinned (OpenSpec.ofChange lexPlacesSpec)

/-- ITS FALSE NEIGHBOUR: 'it returns false'. Refute it at one input. -/
def lexPlacesWrong : ChangeSpec := { name := "lexPlaces", fn := fun _ => fun
  | [d1, d2] => { results := [.lit (.bool false)], args := [d1, d2] }
  | _ => none }
def LexPlacesWrongFalsely : Prop := lexPlacesRow.holds Try.pinned (OpenSpec.ofChange lexPlacesWrong)

/-- 'farandolelaw09.LexAgain': WHATEVER THE INPUT: true; the input reads as it did. -/
def lexAgainSpec : ChangeSpec := { name := "lexAgain", fn := fun _ => fun
  | [d] => { results := [.lit (.bool true)], args := [d] }
  | _ => none }
def lexAgainRow : OpenClaim := { program := "ytpelfojmncfonaa", sum := "7b60e4d824fc9ef0a51b596da080d5d13019e35fe86722c9a97384d6bd439555", func := "farandole/farandolelaw09.LexAgain", spec := "lexAgain", inPlace := ["internal/bytealg.IndexByteString", "internal/bytealg.IndexString"], unfollowed := true, recurses := true, named := ["internal/bytealg.MaxLen"], apart := false }
def LexAgainSaid : Prop := lexAgainRow.holds Try.pinned (OpenSpec.ofChange lexAgainSpec)

/-- ITS FALSE NEIGHBOUR: 'it returns false'. Refute it at one input. -/
def lexAgainWrong : ChangeSpec := { name := "lexAgain", fn := fun _ => fun
  | [d] => { results := [.lit (.bool false)], args := [d] }
  | _ => none }
def LexAgainWrongFalsely : Prop := lexAgainRow.holds Try.pinned (OpenSpec.ofChange lexAgainWrong)

/-- 'farandolelaw09.LexParts': WHATEVER THE INPUT: true; the input reads as it did. -/
def lexPartsSpec : ChangeSpec := { name := "lexParts", fn := fun _ => fun
  | [d1, d2] => { results := [.lit (.bool true)], args := [d1, d2] }
  | _ => none }
def lexPartsRow : OpenClaim := { program := "ytpelfojmncfonaa", sum := "7b60e4d824fc9ef0a51b596da080d5d13019e35fe86722c9a97384d6bd439555", func := "farandole/farandolelaw09.LexParts", spec := "lexParts", inPlace := ["internal/bytealg.IndexByteString", "internal/bytealg.IndexString"], unfollowed := true, recurses := true, named := ["internal/bytealg.MaxLen"], apart := false }
def LexPartsSaid : Prop := lexPartsRow.holds Try.pinned (OpenSpec.ofChange lexPartsSpec)

/-- ITS FALSE NEIGHBOUR: 'it returns false'. Refute it at one input. -/
def lexPartsWrong : ChangeSpec := { name := "lexParts", fn := fun _ => fun
  | [d1, d2] => { results := [.lit (.bool false)], args := [d1, d2] }
  | _ => none }
def LexPartsWrongFalsely : Prop := lexPartsRow.holds Try.pinned (OpenSpec.ofChange lexPartsWrong)

/-- 'farandolelaw09.LexKeywords': WHATEVER THE INPUT: true; the input reads as it did. -/
def lexKeywordsSpec : ChangeSpec := { name := "lexKeywords", fn := fun _ => fun
  | [d1, d2] => { results := [.lit (.bool true)], args := [d1, d2] }
  | _ => none }
def lexKeywordsRow : OpenClaim := { program := "ytpelfojmncfonaa", sum := "7b60e4d824fc9ef0a51b596da080d5d13019e35fe86722c9a97384d6bd439555", func := "farandole/farandolelaw09.LexKeywords", spec := "lexKeywords", inPlace := ["internal/bytealg.IndexByteString", "internal/bytealg.IndexString"], unfollowed := true, recurses := true, named := ["internal/bytealg.MaxLen"], apart := false }
def LexKeywordsSaid : Prop := lexKeywordsRow.holds Try.pinned (OpenSpec.ofChange lexKeywordsSpec)

/-- ITS FALSE NEIGHBOUR: 'it returns false'. Refute it at one input. -/
def lexKeywordsWrong : ChangeSpec := { name := "lexKeywords", fn := fun _ => fun
  | [d1, d2] => { results := [.lit (.bool false)], args := [d1, d2] }
  | _ => none }
def LexKeywordsWrongFalsely : Prop := lexKeywordsRow.holds Try.pinned (OpenSpec.ofChange lexKeywordsWrong)

/-- 'farandolelaw09.LexNames': WHATEVER THE INPUT: true; the input reads as it did. -/
def lexNamesSpec : ChangeSpec := { name := "lexNames", fn := fun _ => fun
  | [d] => { results := [.lit (.bool true)], args := [d] }
  | _ => none }
def lexNamesRow : OpenClaim := { program := "ytpelfojmncfonaa", sum := "7b60e4d824fc9ef0a51b596da080d5d13019e35fe86722c9a97384d6bd439555", func := "farandole/farandolelaw09.LexNames", spec := "lexNames", inPlace := ["internal/bytealg.IndexByteString", "internal/bytealg.IndexString", "internal/abi.NoEscape"], unfollowed := true, recurses := true, named := ["internal/bytealg.MaxLen"], apart := false }
def LexNamesSaid : Prop := lexNamesRow.holds Try.pinned (OpenSpec.ofChange lexNamesSpec)

/-- ITS FALSE NEIGHBOUR: 'it returns false'. Refute it at one input. -/
def lexNamesWrong : ChangeSpec := { name := "lexNames", fn := fun _ => fun
  | [d] => { results := [.lit (.bool false)], args := [d] }
  | _ => none }
def LexNamesWrongFalsely : Prop := lexNamesRow.holds Try.pinned (OpenSpec.ofChange lexNamesWrong)

/-- 'farandolelaw09.LexTexts': WHATEVER THE INPUT: true; the input reads as it did. -/
def lexTextsSpec : ChangeSpec := { name := "lexTexts", fn := fun _ => fun
  | [d] => { results := [.lit (.bool true)], args := [d] }
  | _ => none }
def lexTextsRow : OpenClaim := { program := "ytpelfojmncfonaa", sum := "7b60e4d824fc9ef0a51b596da080d5d13019e35fe86722c9a97384d6bd439555", func := "farandole/farandolelaw09.LexTexts", spec := "lexTexts", inPlace := ["internal/bytealg.IndexByteString", "internal/bytealg.IndexString", "internal/abi.NoEscape"], unfollowed := true, recurses := true, named := ["internal/bytealg.MaxLen"], apart := false }
def LexTextsSaid : Prop := lexTextsRow.holds Try.pinned (OpenSpec.ofChange lexTextsSpec)

/-- ITS FALSE NEIGHBOUR: 'it returns false'. Refute it at one input. -/
def lexTextsWrong : ChangeSpec := { name := "lexTexts", fn := fun _ => fun
  | [d] => { results := [.lit (.bool false)], args := [d] }
  | _ => none }
def LexTextsWrongFalsely : Prop := lexTextsRow.holds Try.pinned (OpenSpec.ofChange lexTextsWrong)

/- THE SECOND FORM. 'bulk': how many values and letters a reading holds, each counted each time it is reached (what is shared counts as often as it is met; a slice's spare places count too). A statement '..UptoSaid' is the law's where the arguments, and the package variables that the reading takes, are together of bulk at most 1048576: NARROWER than '..Said'. Prove '..Said' where nothing that the law and all that it calls make is longer than what came in: it says more and counts as full. Else prove '..UptoSaid'. A law counts once. -/
mutual
def uptoBulk {H : Type} : DataW H → Nat
  | .lit (.string bytes) => bytes.length + 1
  | .lit _ => 1
  | .nil => 1
  | .ptr d => uptoBulk d + 1
  | .slice elems spare => uptoBulkAll elems + uptoBulkAll spare + 1
  | .agg parts => uptoBulkAll parts + 1
  | .iface _ d => uptoBulk d + 1
  | .map entries => uptoBulkEntries entries + 1
  | .held _ => 1
def uptoBulkAll {H : Type} : List (DataW H) → Nat
  | [] => 0
  | d :: r => uptoBulk d + uptoBulkAll r
def uptoBulkEntries {H : Type} : List (Lit × DataW H) → Nat
  | [] => 0
  | x :: r => uptoBulkEntry x + uptoBulkEntries r
def uptoBulkEntry {H : Type} : Lit × DataW H → Nat
  | (.string bytes, d) => bytes.length + uptoBulk d + 1
  | (_, d) => uptoBulk d + 1
 end
def uptoSmall : (H : Type) → List (DataW H) → Bool := fun _ ds => decide (uptoBulkAll ds ≤ 1048576)
def OpenSpec.upto (s : _root_.Go.ChangeSpec) : _root_.Go.OpenSpec := { _root_.Go.OpenSpec.ofChange s with cond := some uptoSmall }

/-- 'farandolelaw09.LexTokens', WHERE WHAT IT READS IS OF BULK AT MOST 1048576: true; the input reads as it did. -/
def lexTokensUptoRow : OpenClaim := { program := "ytpelfojmncfonaa", sum := "7b60e4d824fc9ef0a51b596da080d5d13019e35fe86722c9a97384d6bd439555", func := "farandole/farandolelaw09.LexTokens", spec := "lexTokens", inPlace := ["internal/bytealg.IndexByteString", "internal/bytealg.IndexString"], unfollowed := true, recurses := true, named := ["internal/bytealg.MaxLen"], apart := false, narrowed := true }
def LexTokensUptoSaid : Prop := lexTokensUptoRow.holds Try.pinned (OpenSpec.upto lexTokensSpec)

/-- 'farandolelaw09.LexPlaces', WHERE WHAT IT READS IS OF BULK AT MOST 1048576: true; the input reads as it did. -/
def lexPlacesUptoRow : OpenClaim := { program := "ytpelfojmncfonaa", sum := "7b60e4d824fc9ef0a51b596da080d5d13019e35fe86722c9a97384d6bd439555", func := "farandole/farandolelaw09.LexPlaces", spec := "lexPlaces", inPlace := ["internal/bytealg.IndexByteString", "internal/bytealg.IndexString"], unfollowed := true, recurses := true, named := ["internal/bytealg.MaxLen"], apart := false, narrowed := true }
def LexPlacesUptoSaid : Prop := lexPlacesUptoRow.holds Try.pinned (OpenSpec.upto lexPlacesSpec)

/-- 'farandolelaw09.LexAgain', WHERE WHAT IT READS IS OF BULK AT MOST 1048576: true; the input reads as it did. -/
def lexAgainUptoRow : OpenClaim := { program := "ytpelfojmncfonaa", sum := "7b60e4d824fc9ef0a51b596da080d5d13019e35fe86722c9a97384d6bd439555", func := "farandole/farandolelaw09.LexAgain", spec := "lexAgain", inPlace := ["internal/bytealg.IndexByteString", "internal/bytealg.IndexString"], unfollowed := true, recurses := true, named := ["internal/bytealg.MaxLen"], apart := false, narrowed := true }
def LexAgainUptoSaid : Prop := lexAgainUptoRow.holds Try.pinned (OpenSpec.upto lexAgainSpec)

/-- 'farandolelaw09.LexParts', WHERE WHAT IT READS IS OF BULK AT MOST 1048576: true; the input reads as it did. -/
def lexPartsUptoRow : OpenClaim := { program := "ytpelfojmncfonaa", sum := "7b60e4d824fc9ef0a51b596da080d5d13019e35fe86722c9a97384d6bd439555", func := "farandole/farandolelaw09.LexParts", spec := "lexParts", inPlace := ["internal/bytealg.IndexByteString", "internal/bytealg.IndexString"], unfollowed := true, recurses := true, named := ["internal/bytealg.MaxLen"], apart := false, narrowed := true }
def LexPartsUptoSaid : Prop := lexPartsUptoRow.holds Try.pinned (OpenSpec.upto lexPartsSpec)

/-- 'farandolelaw09.LexKeywords', WHERE WHAT IT READS IS OF BULK AT MOST 1048576: true; the input reads as it did. -/
def lexKeywordsUptoRow : OpenClaim := { program := "ytpelfojmncfonaa", sum := "7b60e4d824fc9ef0a51b596da080d5d13019e35fe86722c9a97384d6bd439555", func := "farandole/farandolelaw09.LexKeywords", spec := "lexKeywords", inPlace := ["internal/bytealg.IndexByteString", "internal/bytealg.IndexString"], unfollowed := true, recurses := true, named := ["internal/bytealg.MaxLen"], apart := false, narrowed := true }
def LexKeywordsUptoSaid : Prop := lexKeywordsUptoRow.holds Try.pinned (OpenSpec.upto lexKeywordsSpec)

/-- 'farandolelaw09.LexNames', WHERE WHAT IT READS IS OF BULK AT MOST 1048576: true; the input reads as it did. -/
def lexNamesUptoRow : OpenClaim := { program := "ytpelfojmncfonaa", sum := "7b60e4d824fc9ef0a51b596da080d5d13019e35fe86722c9a97384d6bd439555", func := "farandole/farandolelaw09.LexNames", spec := "lexNames", inPlace := ["internal/bytealg.IndexByteString", "internal/bytealg.IndexString", "internal/abi.NoEscape"], unfollowed := true, recurses := true, named := ["internal/bytealg.MaxLen"], apart := false, narrowed := true }
def LexNamesUptoSaid : Prop := lexNamesUptoRow.holds Try.pinned (OpenSpec.upto lexNamesSpec)

/-- 'farandolelaw09.LexTexts', WHERE WHAT IT READS IS OF BULK AT MOST 1048576: true; the input reads as it did. -/
def lexTextsUptoRow : OpenClaim := { program := "ytpelfojmncfonaa", sum := "7b60e4d824fc9ef0a51b596da080d5d13019e35fe86722c9a97384d6bd439555", func := "farandole/farandolelaw09.LexTexts", spec := "lexTexts", inPlace := ["internal/bytealg.IndexByteString", "internal/bytealg.IndexString", "internal/abi.NoEscape"], unfollowed := true, recurses := true, named := ["internal/bytealg.MaxLen"], apart := false, narrowed := true }
def LexTextsUptoSaid : Prop := lexTextsUptoRow.holds Try.pinned (OpenSpec.upto lexTextsSpec)

end Rows
end Go.Proofs.Ytpelfojmncfonaa
