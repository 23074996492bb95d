/- Contracts of the reference's numbers. -/
import Derived.Test.YtchngeagnlngaaaDoorFix
import Derived.Lib.Hide
set_option linter.unusedVariables false
set_option linter.unusedSimpArgs false
namespace Go.Proofs.YtchngeagnlngaaaDoor
open Go.RowKit

theorem radd_any (a b : Int) (w : World) : Calls Tryd.prog 35 #[.int .i64 a, .int .i64 b] w fun e w' => e = .returned (.int .i64 (Gal.add a b)) ∧ w = w' := by
  have h1 := Gal.clamp_lo a; have h2 := Gal.clamp_hi a; have h3 := Gal.clamp_lo b; have h4 := Gal.clamp_hi b
  go_enter Tryd.func35, Tryd.ntmps35
  go_wp2_with (go_at_call 22; refine (rclamp_any _ _).mono ?_; rintro e w' ⟨rfl, rfl⟩)
  go_ret
  exact ⟨rfl, rfl⟩
theorem tdiv_neg {p : Int} (h : p < 0) : p.tdiv 256 = -((-p) / 256) := by
  have h1 : (-(-p)).tdiv 256 = -((-p).tdiv 256) := Int.neg_tdiv _ _
  rw [Int.neg_neg] at h1
  rw [h1, Int.tdiv_eq_ediv_of_nonneg (by omega)]
end Go.Proofs.YtchngeagnlngaaaDoor
