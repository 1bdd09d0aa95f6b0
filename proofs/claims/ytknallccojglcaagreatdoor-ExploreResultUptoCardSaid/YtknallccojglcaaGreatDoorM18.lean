/- VcArgs. -/
import Derived.Test.YtknallccojglcaaGreatDoorM04
import Derived.WideShapes
set_option linter.unusedVariables false
set_option linter.unusedSimpArgs false
set_option maxRecDepth 100000

section
namespace Go.VC
open Go.ChangeShapes Go.WideShapes Go.RowKit
def fieldAt (P:Program) (t:TypeId) (i:Nat):Option (TypeId × Nat):=match P.underlying t with
  | some (.struct fs)=>(fs[i]?).map fun f=>(f.type,f.offset)
  | _=>none
theorem Rdt.field {P:Program} {W:World} {t ft:TypeId} {cs:List Value} {i off:Nat} (h:Rdt P W t cs) (hf:fieldAt P t i=some (ft,off)):Rdt P W ft ((cs.drop off).take (P.cellsOf ft)):=by
  unfold fieldAt at hf
  split at hf
  · rename_i fs hu
    obtain⟨f,h1,h2⟩:=Yya.1 hf
    cases h2
    exact (h.struct hu).2 i f h1
  · cases hf
theorem Rdt.flen {P:Program} {W:World} {t ft:TypeId} {cs:List Value} {i off:Nat} (h:Rdt P W t cs) (hf:fieldAt P t i=some (ft,off)):cs.length=P.cellsOf t:=by
  unfold fieldAt at hf
  split at hf
  · rename_i fs hu;exact (h.struct hu).1
  · cases hf
/-! ### with the weights: no slice is greater than the reach -/
end Go.VC
end
