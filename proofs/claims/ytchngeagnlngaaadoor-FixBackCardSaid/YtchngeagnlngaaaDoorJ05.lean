/- Texts joined: Fix. -/
import Derived.Test.YtchngeagnlngaaaDoorProg
import Derived.Test.YtchngeagnlngaaaDoorJ02
import Derived.Test.YtchngeagnlngaaaDoorJ04
import Derived.WalkKit
import Derived.WalkLawsBesides
import Derived.WalkSpells
section

set_option linter.unusedVariables false
set_option linter.unusedSimpArgs false
namespace Go.Proofs.YtchngeagnlngaaaDoor
open Go.RowKit
theorem clamp_any (x : Int) (w : World) : Calls Tryd.prog 12 #[.int .i64 x] w fun e w' => e = .returned (.int .i64 (Gal.clamp x)) ∧ w = w' := by
 go_enter Tryd.func12, Tryd.ntmps12
 go_wp2
 all_goals (go_ret; exact ⟨ret_int (by unfold Gal.clamp; omega), rfl⟩)
theorem mul_any (a b : Int) (w : World) : Calls Tryd.prog 27 #[.int .i64 a, .int .i64 b] w fun e w' => e = .returned (.int .i64 (Gal.mul a b)) ∧ w = w' := by
 have h1 := Gal.clamp_lo a; have h2 := Gal.clamp_hi a; have h3 := Gal.clamp_lo b; have h4 := Gal.clamp_hi b
 obtain ⟨h5, h6⟩ := Gal.mul_bd a b
 go_enter Tryd.func27, Tryd.ntmps27
 go_wp2_with (go_at_call 12; refine (clamp_any _ _).mono ?_; rintro e w' ⟨rfl, rfl⟩)
 go_ret
 exact ⟨rfl, rfl⟩
end Go.Proofs.YtchngeagnlngaaaDoor
end
