/- VcArgs. -/
import Derived.Test.YtnfkibjnkiojnaaGreatDoorM04
import Derived.OpenShut
import Derived.WideShapes
import Derived.Test.YtnfkibjnkiojnaaGreatDoorM01
set_option linter.unusedVariables false
set_option linter.unusedSimpArgs false
set_option maxRecDepth 100000

section
/- For every program: what arguments look like in memory, field by field. -/
namespace Go.VC
open Go.ChangeShapes Go.WideShapes Go.RowKit

def fieldAt (P:Program) (t:TypeId) (i:Nat):Option (TypeId × Nat):=match P.underlying t with
  | some (.struct fs)=>(fs[i]?).map fun f=>(f.type,f.offset)
  | _=>none
theorem Rdt.field {P:Program} {W:World} {t ft:TypeId} {cs:List Value} {i off:Nat} (h:Rdt P W t cs) (hf:fieldAt P t i=some (ft,off)):Rdt P W ft ((cs.drop off).take (P.cellsOf ft)):=by
  unfold fieldAt at hf
  split at hf
  · rename_i fs hu
    obtain ⟨f,h1,h2⟩:=Yya.1 hf
    cases h2
    exact (h.struct hu).2 i f h1
  · cases hf
theorem Rdt.flen {P:Program} {W:World} {t ft:TypeId} {cs:List Value} {i off:Nat} (h:Rdt P W t cs) (hf:fieldAt P t i=some (ft,off)):cs.length=P.cellsOf t:=by
  unfold fieldAt at hf
  split at hf
  · rename_i fs hu; exact (h.struct hu).1
  · cases hf
theorem okWide_agg {P:Program} {w:World} {r:Reach} {base:Nat} {t:TypeId} {v:Value} (ht:aggB P t=true) (h:Value.okWide P w r base t v):∃ cs,v=.agg cs:=by
  unfold aggB at ht
  unfold Value.okWide at h
  split at ht
  · rename_i hu; simp only [hu] at h; obtain ⟨cs,h1,_⟩:=h; exact ⟨cs,h1⟩
  · rename_i hu; simp only [hu] at h; obtain ⟨cs,h1,_⟩:=h; exact ⟨cs,h1⟩
  · cases ht
/-! ### with the weights: no slice is greater than the reach -/
end Go.VC
end
