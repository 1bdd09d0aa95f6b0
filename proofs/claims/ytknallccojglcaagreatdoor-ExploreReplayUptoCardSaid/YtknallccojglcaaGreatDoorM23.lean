/- VcSort2. -/
import Derived.Test.YtknallccojglcaaGreatDoorM10
set_option linter.unusedVariables false
set_option linter.unusedSimpArgs false
set_option maxRecDepth 100000

section
namespace Go.VC
open Go.Proofs Go.Shelf Go.RowKit Go.Lib Go.Sort

end Go.VC
end
