/- Contracts of package fix, and of the reference's four. -/
import Derived.Test.YtlfeijffjpjnnaaProg
import Derived.Test.YtlfeijffjpjnnaaBaseP
import Derived.WalkKit
import Derived.WalkLawsBesides
import Derived.WalkSpells

set_option linter.unusedVariables false
set_option linter.unusedSimpArgs false
namespace Go.Proofs.Ytlfeijffjpjnnaa
open Go.RowKit

theorem ret_int {k : IntKind} {a b : Int} (h : a = b) : Ending.returned (.int k a) = .returned (.int k b) := by rw [h]

theorem clamp_any (x : Int) (w : World) : Calls Try.prog 15 #[.int .i64 x] w fun e w' => e = .returned (.int .i64 (Gal.clamp x)) ∧ w = w' := by
  go_enter Try.func15, Try.ntmps15
  go_wp2
  all_goals (go_ret; exact ⟨ret_int (by unfold Gal.clamp; omega), rfl⟩)

theorem add_any (a b : Int) (w : World) : Calls Try.prog 16 #[.int .i64 a, .int .i64 b] w fun e w' => e = .returned (.int .i64 (Gal.add a b)) ∧ w = w' := by
  have h1 := Gal.clamp_lo a; have h2 := Gal.clamp_hi a; have h3 := Gal.clamp_lo b; have h4 := Gal.clamp_hi b
  go_enter Try.func16, Try.ntmps16
  go_wp2_with (go_at_call 15; refine (clamp_any _ _).mono ?_; rintro e w' ⟨rfl, rfl⟩)
  go_ret
  exact ⟨rfl, rfl⟩

theorem sub_any (a b : Int) (w : World) : Calls Try.prog 17 #[.int .i64 a, .int .i64 b] w fun e w' => e = .returned (.int .i64 (Gal.sub a b)) ∧ w = w' := by
  have h1 := Gal.clamp_lo a; have h2 := Gal.clamp_hi a; have h3 := Gal.clamp_lo b; have h4 := Gal.clamp_hi b
  go_enter Try.func17, Try.ntmps17
  go_wp2_with (go_at_call 15; refine (clamp_any _ _).mono ?_; rintro e w' ⟨rfl, rfl⟩)
  go_ret
  exact ⟨rfl, rfl⟩

theorem mul_any (a b : Int) (w : World) : Calls Try.prog 18 #[.int .i64 a, .int .i64 b] w fun e w' => e = .returned (.int .i64 (Gal.mul a b)) ∧ w = w' := by
  have h1 := Gal.clamp_lo a; have h2 := Gal.clamp_hi a; have h3 := Gal.clamp_lo b; have h4 := Gal.clamp_hi b
  obtain ⟨h5, h6⟩ := Gal.mul_bd a b
  go_enter Try.func18, Try.ntmps18
  go_wp2_with (go_at_call 15; refine (clamp_any _ _).mono ?_; rintro e w' ⟨rfl, rfl⟩)
  go_ret
  exact ⟨rfl, rfl⟩

theorem rclamp_any (x : Int) (w : World) : Calls Try.prog 19 #[.int .i64 x] w fun e w' => e = .returned (.int .i64 (Gal.clamp x)) ∧ w = w' := by
  go_enter Try.func19, Try.ntmps19
  go_wp2
  all_goals (go_ret; exact ⟨ret_int (by unfold Gal.clamp; omega), rfl⟩)
end Go.Proofs.Ytlfeijffjpjnnaa
