/- Contracts of package loss: the iterator that goes through how far each cell is off. -/
import Derived.Test.YtikcdjibflleeaaJMat
import Derived.Test.YtikcdjibflleeaaBaseR
import Derived.Test.YtikcdjibflleeaaBaseP
import Derived.RangeFuncNested
import Derived.RangeFuncBound
import Derived.RangeFuncCalls
import Derived.RangeFuncLeaves
import Derived.RangeFuncBox
import Derived.Shelf.Abstract
import Derived.Shelf.RegionOpen
import Derived.OwnWalkIn
import Derived.TacticsInMore
import Derived.LoopNIn
import Derived.LoopIn
import Derived.RegionIn
set_option linter.unusedVariables false
set_option linter.unusedSimpArgs false
namespace Go.Proofs.Ytikcdjibflleeaa
open Go.RowKit Go.Shelf Gal
attribute [local go_sem] Oper.semAt_some

end Go.Proofs.Ytikcdjibflleeaa
