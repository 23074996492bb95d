/- Contracts of the reference: shaped. -/
import Derived.Test.YtgknjikjjklaiaaDoorJPlain
import Derived.Test.YtgknjikjjklaiaaDoorJMat
set_option linter.unusedVariables false
set_option linter.unusedSimpArgs false
set_option linter.unusedSectionVars false
namespace Go.Proofs.YtgknjikjjklaiaaDoor
open Go.RowKit Gal
set_option maxRecDepth 100000
set_option maxHeartbeats 2000000
theorem refShaped_any (x y : Mat) (a0 a1 : Option Addr) (n0 n1 k0 k1 : Nat) (w : World) :
    Calls Tryd.prog 50 #[.agg #[.int .i64 x.rows, .int .i64 x.cols, .slice a0 n0 k0], .agg #[.int .i64 y.rows, .int .i64 y.cols, .slice a1 n1 k1]] w fun e w' => e = .returned (.bool (decide (likeShape x y))) ∧ Below w.heap.size w w' := by
  by_cases h1 : x.rows = y.rows
  · have g1 : (x.rows == y.rows) = true := by simp [h1]
    by_cases h2 : x.cols = y.cols
    · have g2 : (x.cols == y.cols) = true := by simp [h2]
      rw [decide_eq_true (show likeShape x y from ⟨h1, h2⟩)]
      clear h1 h2
      go_enter Tryd.func50, Tryd.ntmps50
      go_wp2
      go_ret
      exact ⟨rfl, (by repeat (first | fail | (with_reducible exact Below.refl _ _) | (with_reducible refine Below.al ?_ _) | (with_reducible refine Below.drN ?_ _) | (with_reducible refine Below.drew ?_) | (with_reducible refine Below.st ?_ ?_ _; rotate_left 1; (first | (dsimp only; omega) | omega | (simp; omega) | simp)) | exact Below.refl _ _))⟩
    · have g2 : (x.cols == y.cols) = false := by simp [h2]
      rw [decide_eq_false (fun h : likeShape x y => h2 h.2)]
      clear h1 h2
      go_enter Tryd.func50, Tryd.ntmps50
      go_wp2
      go_ret
      exact ⟨rfl, (by repeat (first | fail | (with_reducible exact Below.refl _ _) | (with_reducible refine Below.al ?_ _) | (with_reducible refine Below.drN ?_ _) | (with_reducible refine Below.drew ?_) | (with_reducible refine Below.st ?_ ?_ _; rotate_left 1; (first | (dsimp only; omega) | omega | (simp; omega) | simp)) | exact Below.refl _ _))⟩
  · have g1 : (x.rows == y.rows) = false := by simp [h1]
    rw [decide_eq_false (fun h : likeShape x y => h1 h.1)]
    clear h1
    go_enter Tryd.func50, Tryd.ntmps50
    go_wp2
    go_ret
    exact ⟨rfl, (by repeat (first | fail | (with_reducible exact Below.refl _ _) | (with_reducible refine Below.al ?_ _) | (with_reducible refine Below.drN ?_ _) | (with_reducible refine Below.drew ?_) | (with_reducible refine Below.st ?_ ?_ _; rotate_left 1; (first | (dsimp only; omega) | omega | (simp; omega) | simp)) | exact Below.refl _ _))⟩
end Go.Proofs.YtgknjikjjklaiaaDoor
