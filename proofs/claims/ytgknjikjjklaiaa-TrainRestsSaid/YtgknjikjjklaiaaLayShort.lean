/- Contracts of package layer, in short: Go and Back, where nothing is wrong, and where something is. -/
import Derived.Test.YtgknjikjjklaiaaLay12
set_option linter.unusedVariables false
set_option linter.unusedSimpArgs false
namespace Go.Proofs.Ytgknjikjjklaiaa
open Go.RowKit Gal
section
variable {l : Lay} {m y g : Mat} {v u t : Value} {w : World}
theorem layGo_is (h : LayAt w v l) (hu : MatAt w u m) (hf : l.goFault m = 0) (hy : l.go m = y) :
    Calls Try.prog 18 #[v, u] w fun e w' => ∃ x, e = .returned (.tuple #[x, .nilIface]) ∧ MatNew w.heap.size w' x y ∧ Below w.heap.size w w' := by
  have := layGo_any l m v u w h hu
  rw [orNone_ok hf, errV_nil hf, hy] at this
  exact this
theorem layGo_not (h : LayAt w v l) (hu : MatAt w u m) (hf : l.goFault m ≠ 0) :
    Calls Try.prog 18 #[v, u] w fun e w' => ∃ x, e = .returned (.tuple #[x, .iface 56 (.int .i64 (l.goFault m))]) ∧ MatNew w.heap.size w' x Mat.none ∧ Below w.heap.size w w' := by
  have := layGo_any l m v u w h hu
  rw [orNone_bad hf, errV_err hf] at this
  exact this
theorem layBack_is (h : LayAt w v l) (hu : MatAt w u m) (ht : MatAt w t g) (hf : l.backFault m g = 0) (hy : l.back m g = y) :
    Calls Try.prog 19 #[v, u, t] w fun e w' => ∃ x d, e = .returned (.tuple #[x, d, .nilIface]) ∧ MatNew w.heap.size w' x y ∧ GrdNew w.heap.size w' d (l.grad m g) ∧ Below w.heap.size w w' := by
  have := layBack_any l m g v u t w h hu ht
  unfold BackPost at this
  rw [orNone_ok hf, orGrd_ok hf, errV_nil hf, hy] at this
  exact this
theorem layBack_not (h : LayAt w v l) (hu : MatAt w u m) (ht : MatAt w t g) (hf : l.backFault m g ≠ 0) :
    Calls Try.prog 19 #[v, u, t] w fun e w' => ∃ x d, e = .returned (.tuple #[x, d, .iface 56 (.int .i64 (l.backFault m g))]) ∧ MatNew w.heap.size w' x Mat.none ∧ GrdNew w.heap.size w' d Grd.none ∧ Below w.heap.size w w' := by
  have := layBack_any l m g v u t w h hu ht
  unfold BackPost at this
  rw [orNone_bad hf, orGrd_bad hf, errV_err hf] at this
  exact this
end
end Go.Proofs.Ytgknjikjjklaiaa
