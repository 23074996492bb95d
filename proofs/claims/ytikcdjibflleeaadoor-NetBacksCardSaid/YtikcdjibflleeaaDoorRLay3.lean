/- Contracts of the reference: what comes of a layer. -/
import Derived.Test.YtikcdjibflleeaaDoorRLay2
import Derived.Test.YtikcdjibflleeaaDoorJLay
import Derived.Test.YtikcdjibflleeaaDoorUni
import Derived.Test.YtikcdjibflleeaaDoorBaseR
set_option linter.unusedVariables false
set_option linter.unusedSimpArgs false
namespace Go.Proofs.YtikcdjibflleeaaDoor
open Go.RowKit Gal
set_option linter.unusedSectionVars false
set_option maxRecDepth 100000
set_option maxHeartbeats 4000000
end Go.Proofs.YtikcdjibflleeaaDoor
