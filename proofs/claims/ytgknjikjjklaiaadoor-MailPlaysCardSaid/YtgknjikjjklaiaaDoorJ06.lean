/- Texts joined: Made. -/
import Derived.Test.YtgknjikjjklaiaaDoorProg
import Derived.Test.YtgknjikjjklaiaaDoorJ03
import Derived.ProofKit
section
set_option linter.unusedVariables false
set_option linter.unusedSimpArgs false
namespace Go.Proofs.YtgknjikjjklaiaaDoor
open Go.RowKit Gal
theorem info_int' : (Tryd.prog.info? 3).map (fun i => (i.zero, i.size, i.bytes)) = some (some (.int .i64 0), 1, 8) := by kernel_rfl
end Go.Proofs.YtgknjikjjklaiaaDoor
end
