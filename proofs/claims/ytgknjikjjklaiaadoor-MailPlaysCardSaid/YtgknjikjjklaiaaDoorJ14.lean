/- Texts joined: PWire3. -/
import Derived.Test.YtgknjikjjklaiaaDoorJ13
import Derived.Laws.BitsAllLaws
import Derived.Test.YtgknjikjjklaiaaDoorJ02
section
set_option linter.unusedVariables false
set_option linter.unusedSimpArgs false
namespace Gal
/-! ### reading a beginning -/
/-! ### messages -/
structure MsgD where
 kind : Int
 micro : Int
 body : Mat
end Gal
end
