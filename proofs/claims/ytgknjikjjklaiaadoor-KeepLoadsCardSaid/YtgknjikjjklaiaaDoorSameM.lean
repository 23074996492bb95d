/- Contracts of package galleysame: Matrices, of two that are the same. -/
import Derived.Test.YtgknjikjjklaiaaDoorJMat
set_option linter.unusedVariables false
set_option linter.unusedSimpArgs false
namespace Go.Proofs.YtgknjikjjklaiaaDoor
open Go.RowKit Gal
theorem matrices_sameM (ma : Mat) (va vb : Value) (w : World) (ha : MatAt w va ma) (hb : MatAt w vb ma) :
    Calls Tryd.prog 41 #[va, vb] w fun e w' => e = .returned (.bool true) ∧ Below w.heap.size w w' :=
  (matrices_any ma ma va vb w ha hb).mono fun _ _ ⟨h, hb⟩ => ⟨by rw [h, decide_eq_true rfl], hb⟩
end Go.Proofs.YtgknjikjjklaiaaDoor
