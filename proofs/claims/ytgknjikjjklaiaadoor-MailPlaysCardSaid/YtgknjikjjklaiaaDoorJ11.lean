/- Texts joined: Open. -/
import Derived.Test.YtgknjikjjklaiaaDoorJ03
import Derived.Test.YtgknjikjjklaiaaDoorProg
import Derived.ProofKit
import Derived.OpenShut
import Derived.Lib.SmallJoins
section
set_option linter.unusedVariables false
set_option linter.unusedSimpArgs false
namespace Go.Proofs.YtgknjikjjklaiaaDoor
open Go.ChangeShapes Go.WideShapes Go.ChangeAt Go.RowKit Go.Joins Gal
theorem cells_mat : Tryd.prog.cellsOf 24 = 3 := by kernel_rfl
theorem cells_int : Tryd.prog.cellsOf 3 = 1 := by kernel_rfl
end Go.Proofs.YtgknjikjjklaiaaDoor
end
