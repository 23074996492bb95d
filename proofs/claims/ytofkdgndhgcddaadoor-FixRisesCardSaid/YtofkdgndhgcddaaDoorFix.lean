/- Contracts of package fix, and of the reference's four. -/
import Derived.Test.YtofkdgndhgcddaaDoorProg
import Derived.Test.YtofkdgndhgcddaaDoorBaseP
import Derived.WalkKit
import Derived.WalkLawsBesides
import Derived.WalkSpells

set_option linter.unusedVariables false
set_option linter.unusedSimpArgs false
namespace Go.Proofs.YtofkdgndhgcddaaDoor
open Go.RowKit

theorem ret_int {k : IntKind} {a b : Int} (h : a = b) : Ending.returned (.int k a) = .returned (.int k b) := by rw [h]

theorem clamp_any (x : Int) (w : World) : Calls Tryd.prog 9 #[.int .i64 x] w fun e w' => e = .returned (.int .i64 (Gal.clamp x)) ∧ w = w' := by
  go_enter Tryd.func9, Tryd.ntmps9
  go_wp2
  all_goals (go_ret; exact ⟨ret_int (by unfold Gal.clamp; omega), rfl⟩)

theorem add_any (a b : Int) (w : World) : Calls Tryd.prog 7 #[.int .i64 a, .int .i64 b] w fun e w' => e = .returned (.int .i64 (Gal.add a b)) ∧ w = w' := by
  have h1 := Gal.clamp_lo a; have h2 := Gal.clamp_hi a; have h3 := Gal.clamp_lo b; have h4 := Gal.clamp_hi b
  go_enter Tryd.func7, Tryd.ntmps7
  go_wp2_with (go_at_call 9; refine (clamp_any _ _).mono ?_; rintro e w' ⟨rfl, rfl⟩)
  go_ret
  exact ⟨rfl, rfl⟩

theorem sub_any (a b : Int) (w : World) : Calls Tryd.prog 10 #[.int .i64 a, .int .i64 b] w fun e w' => e = .returned (.int .i64 (Gal.sub a b)) ∧ w = w' := by
  have h1 := Gal.clamp_lo a; have h2 := Gal.clamp_hi a; have h3 := Gal.clamp_lo b; have h4 := Gal.clamp_hi b
  go_enter Tryd.func10, Tryd.ntmps10
  go_wp2_with (go_at_call 9; refine (clamp_any _ _).mono ?_; rintro e w' ⟨rfl, rfl⟩)
  go_ret
  exact ⟨rfl, rfl⟩

theorem mul_any (a b : Int) (w : World) : Calls Tryd.prog 8 #[.int .i64 a, .int .i64 b] w fun e w' => e = .returned (.int .i64 (Gal.mul a b)) ∧ w = w' := by
  have h1 := Gal.clamp_lo a; have h2 := Gal.clamp_hi a; have h3 := Gal.clamp_lo b; have h4 := Gal.clamp_hi b
  obtain ⟨h5, h6⟩ := Gal.mul_bd a b
  go_enter Tryd.func8, Tryd.ntmps8
  go_wp2_with (go_at_call 9; refine (clamp_any _ _).mono ?_; rintro e w' ⟨rfl, rfl⟩)
  go_ret
  exact ⟨rfl, rfl⟩

end Go.Proofs.YtofkdgndhgcddaaDoor
