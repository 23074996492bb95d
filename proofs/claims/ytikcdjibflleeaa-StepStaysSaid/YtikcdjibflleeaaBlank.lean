/- Contracts of the reference's Blank and of the laws' matFact. -/
import Derived.Test.YtikcdjibflleeaaMat5
import Derived.Test.YtikcdjibflleeaaSame
set_option linter.unusedVariables false
set_option linter.unusedSimpArgs false
namespace Go.Proofs.Ytikcdjibflleeaa
open Go.RowKit Gal

theorem ints_box {w : World} {b : Nat} {xs : List Int} {t : TypeId} (h : Box w b (xs.map (Value.int .i64)) t) (hl : xs.length ≤ maxLen) : IntsAt w (some ⟨b, 0, none⟩) xs.length xs.length b 0 xs := by
  refine ⟨rfl, Nat.le_refl _, hl, fun _ => rfl, fun _ => h.lt, fun i hi => ?_⟩
  rw [Nat.zero_add, h.cell]
  unfold ix
  rw [List.getElem?_map, List.getElem?_eq_getElem hi]
  rfl

end Go.Proofs.Ytikcdjibflleeaa
