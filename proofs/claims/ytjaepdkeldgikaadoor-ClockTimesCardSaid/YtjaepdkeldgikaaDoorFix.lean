/- Contracts of package fix, and of the reference's four. -/
import Derived.Test.YtjaepdkeldgikaaDoorProg
import Derived.Test.YtjaepdkeldgikaaDoorBaseP
import Derived.Test.YtjaepdkeldgikaaDoorSameI
import Derived.WalkKit
import Derived.WalkLawsBesides
import Derived.WalkSpells

set_option linter.unusedVariables false
set_option linter.unusedSimpArgs false
namespace Go.Proofs.YtjaepdkeldgikaaDoor
open Go.RowKit


end Go.Proofs.YtjaepdkeldgikaaDoor
