/- Contracts of package fix, and of the reference's four. -/
import Derived.Test.YtgknjikjjklaiaaDoorProg
import Derived.Test.YtgknjikjjklaiaaDoorBaseP
import Derived.Test.YtgknjikjjklaiaaDoorSameI
import Derived.WalkKit
import Derived.WalkLawsBesides
import Derived.WalkSpells

set_option linter.unusedVariables false
set_option linter.unusedSimpArgs false
namespace Go.Proofs.YtgknjikjjklaiaaDoor
open Go.RowKit


theorem clamp_any (x : Int) (w : World) : Calls Tryd.prog 65 #[.int .i64 x] w fun e w' => e = .returned (.int .i64 (Gal.clamp x)) ∧ w = w' := by
  go_enter Tryd.func65, Tryd.ntmps65
  go_wp2
  all_goals (go_ret; exact ⟨ret_int (by unfold Gal.clamp; omega), rfl⟩)

end Go.Proofs.YtgknjikjjklaiaaDoor
