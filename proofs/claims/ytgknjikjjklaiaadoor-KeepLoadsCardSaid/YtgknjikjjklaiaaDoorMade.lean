/- make([]int, n). -/
import Derived.Test.YtgknjikjjklaiaaDoorProg
import Derived.Test.YtgknjikjjklaiaaDoorBaseR
import Derived.ProofKit
set_option linter.unusedVariables false
set_option linter.unusedSimpArgs false
namespace Go.Proofs.YtgknjikjjklaiaaDoor
open Go.RowKit Gal
theorem info_int' : (Tryd.prog.info? 3).map (fun i => (i.zero, i.size, i.bytes)) = some (some (.int .i64 0), 1, 8) := by kernel_rfl
theorem ints1 {w : World} {b : Nat} {x : Int} {t : TypeId} (h : Box w b [.int .i64 x] t) : IntsAt w (some ⟨b, 0, none⟩) 1 1 b 0 [x] := by
  refine ⟨rfl, Nat.le_refl _, by unfold maxLen; omega, fun _ => rfl, fun _ => h.lt, fun i hi => ?_⟩
  obtain rfl : i = 0 := by omega
  exact (h.cell _).trans rfl

end Go.Proofs.YtgknjikjjklaiaaDoor
