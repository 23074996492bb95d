/- Contracts of package batch: how many rows each part has. -/
import Derived.Test.YtikcdjibflleeaaDoorFix
import Derived.Test.YtikcdjibflleeaaDoorBaseR
import Derived.Test.YtikcdjibflleeaaDoorMat2
import Derived.Test.YtikcdjibflleeaaDoorPBatch
set_option linter.unusedVariables false
set_option linter.unusedSimpArgs false
namespace Go.Proofs.YtikcdjibflleeaaDoor
open Go.RowKit Gal

theorem ints1 {w : World} {b : Nat} {x : Int} {t : TypeId} (h : Box w b [.int .i64 x] t) : IntsAt w (some ⟨b, 0, none⟩) 1 1 b 0 [x] := by
  refine ⟨rfl, Nat.le_refl _, by unfold maxLen; omega, fun _ => rfl, fun _ => h.lt, fun i hi => ?_⟩
  obtain rfl : i = 0 := by omega
  exact (h.cell _).trans rfl

end Go.Proofs.YtikcdjibflleeaaDoor
