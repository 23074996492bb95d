/- Contracts of package fix, and of the reference's four. -/
import Derived.Test.YtchngeagnlngaaaDoorProg
import Derived.Test.YtchngeagnlngaaaDoorBaseP
import Derived.Test.YtchngeagnlngaaaDoorSameI
import Derived.WalkKit
import Derived.WalkLawsBesides
import Derived.WalkSpells

set_option linter.unusedVariables false
set_option linter.unusedSimpArgs false
namespace Go.Proofs.YtchngeagnlngaaaDoor
open Go.RowKit


theorem clamp_any (x : Int) (w : World) : Calls Tryd.prog 12 #[.int .i64 x] w fun e w' => e = .returned (.int .i64 (Gal.clamp x)) ∧ w = w' := by
  go_enter Tryd.func12, Tryd.ntmps12
  go_wp2
  all_goals (go_ret; exact ⟨ret_int (by unfold Gal.clamp; omega), rfl⟩)

theorem add_any (a b : Int) (w : World) : Calls Tryd.prog 56 #[.int .i64 a, .int .i64 b] w fun e w' => e = .returned (.int .i64 (Gal.add a b)) ∧ w = w' := by
  have h1 := Gal.clamp_lo a; have h2 := Gal.clamp_hi a; have h3 := Gal.clamp_lo b; have h4 := Gal.clamp_hi b
  go_enter Tryd.func56, Tryd.ntmps56
  go_wp2_with (go_at_call 12; refine (clamp_any _ _).mono ?_; rintro e w' ⟨rfl, rfl⟩)
  go_ret
  exact ⟨rfl, rfl⟩

theorem mul_any (a b : Int) (w : World) : Calls Tryd.prog 27 #[.int .i64 a, .int .i64 b] w fun e w' => e = .returned (.int .i64 (Gal.mul a b)) ∧ w = w' := by
  have h1 := Gal.clamp_lo a; have h2 := Gal.clamp_hi a; have h3 := Gal.clamp_lo b; have h4 := Gal.clamp_hi b
  obtain ⟨h5, h6⟩ := Gal.mul_bd a b
  go_enter Tryd.func27, Tryd.ntmps27
  go_wp2_with (go_at_call 12; refine (clamp_any _ _).mono ?_; rintro e w' ⟨rfl, rfl⟩)
  go_ret
  exact ⟨rfl, rfl⟩

theorem rclamp_any (x : Int) (w : World) : Calls Tryd.prog 22 #[.int .i64 x] w fun e w' => e = .returned (.int .i64 (Gal.clamp x)) ∧ w = w' := by
  go_enter Tryd.func22, Tryd.ntmps22
  go_wp2
  all_goals (go_ret; exact ⟨ret_int (by unfold Gal.clamp; omega), rfl⟩)
end Go.Proofs.YtchngeagnlngaaaDoor
