/- Contracts of package fix, and of the reference's four. -/
import Derived.Test.YtikcdjibflleeaaProg
import Derived.Test.YtikcdjibflleeaaBaseP
import Derived.WalkKit
import Derived.WalkLawsBesides
import Derived.WalkSpells

set_option linter.unusedVariables false
set_option linter.unusedSimpArgs false
namespace Go.Proofs.Ytikcdjibflleeaa
open Go.RowKit

theorem ret_int {k : IntKind} {a b : Int} (h : a = b) : Ending.returned (.int k a) = .returned (.int k b) := by rw [h]

theorem clamp_any (x : Int) (w : World) : Calls Try.prog 36 #[.int .i64 x] w fun e w' => e = .returned (.int .i64 (Gal.clamp x)) ∧ w = w' := by
  go_enter Try.func36, Try.ntmps36
  go_wp2
  all_goals (go_ret; exact ⟨ret_int (by unfold Gal.clamp; omega), rfl⟩)

theorem add_any (a b : Int) (w : World) : Calls Try.prog 31 #[.int .i64 a, .int .i64 b] w fun e w' => e = .returned (.int .i64 (Gal.add a b)) ∧ w = w' := by
  have h1 := Gal.clamp_lo a; have h2 := Gal.clamp_hi a; have h3 := Gal.clamp_lo b; have h4 := Gal.clamp_hi b
  go_enter Try.func31, Try.ntmps31
  go_wp2_with (go_at_call 36; refine (clamp_any _ _).mono ?_; rintro e w' ⟨rfl, rfl⟩)
  go_ret
  exact ⟨rfl, rfl⟩

theorem sub_any (a b : Int) (w : World) : Calls Try.prog 33 #[.int .i64 a, .int .i64 b] w fun e w' => e = .returned (.int .i64 (Gal.sub a b)) ∧ w = w' := by
  have h1 := Gal.clamp_lo a; have h2 := Gal.clamp_hi a; have h3 := Gal.clamp_lo b; have h4 := Gal.clamp_hi b
  go_enter Try.func33, Try.ntmps33
  go_wp2_with (go_at_call 36; refine (clamp_any _ _).mono ?_; rintro e w' ⟨rfl, rfl⟩)
  go_ret
  exact ⟨rfl, rfl⟩

theorem mul_any (a b : Int) (w : World) : Calls Try.prog 32 #[.int .i64 a, .int .i64 b] w fun e w' => e = .returned (.int .i64 (Gal.mul a b)) ∧ w = w' := by
  have h1 := Gal.clamp_lo a; have h2 := Gal.clamp_hi a; have h3 := Gal.clamp_lo b; have h4 := Gal.clamp_hi b
  obtain ⟨h5, h6⟩ := Gal.mul_bd a b
  go_enter Try.func32, Try.ntmps32
  go_wp2_with (go_at_call 36; refine (clamp_any _ _).mono ?_; rintro e w' ⟨rfl, rfl⟩)
  go_ret
  exact ⟨rfl, rfl⟩

end Go.Proofs.Ytikcdjibflleeaa
