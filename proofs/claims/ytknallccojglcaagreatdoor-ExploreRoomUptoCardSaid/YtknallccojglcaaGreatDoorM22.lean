/- VcSort2. -/
import Derived.Test.YtknallccojglcaaGreatDoorM10
set_option linter.unusedVariables false
set_option linter.unusedSimpArgs false
set_option maxRecDepth 100000

section
/- For every program: slices.SortFunc at a row of structs of the call's own, under a comparison bound to arguments that reads what lies outside the row; from the kit's contract. -/
namespace Go.VC
open Go.Proofs Go.Shelf Go.RowKit Go.Lib Go.Sort
end Go.VC
end
