/- Contracts of package mat: Check. -/
import Derived.Test.YtjaepdkeldgikaaDoorFix
import Derived.Test.YtjaepdkeldgikaaDoorErrV
import Derived.Test.YtjaepdkeldgikaaDoorBaseP
import Derived.Test.YtjaepdkeldgikaaDoorBaseR
set_option linter.unusedVariables false
set_option linter.unusedSimpArgs false
namespace Go.Proofs.YtjaepdkeldgikaaDoor
open Go.RowKit Gal

end Go.Proofs.YtjaepdkeldgikaaDoor
