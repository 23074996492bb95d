/- Contracts of the reference's numbers. -/
import Derived.Test.YtikcdjibflleeaaDoorFix
import Derived.Lib.Hide
set_option linter.unusedVariables false
set_option linter.unusedSimpArgs false
namespace Go.Proofs.YtikcdjibflleeaaDoor
open Go.RowKit

theorem radd_any (a b : Int) (w : World) : Calls Tryd.prog 49 #[.int .i64 a, .int .i64 b] w fun e w' => e = .returned (.int .i64 (Gal.add a b)) ∧ w = w' := by
  have h1 := Gal.clamp_lo a; have h2 := Gal.clamp_hi a; have h3 := Gal.clamp_lo b; have h4 := Gal.clamp_hi b
  go_enter Tryd.func49, Tryd.ntmps49
  go_wp2_with (go_at_call 71; refine (rclamp_any _ _).mono ?_; rintro e w' ⟨rfl, rfl⟩)
  go_ret
  exact ⟨rfl, rfl⟩
theorem rsub_any (a b : Int) (w : World) : Calls Tryd.prog 55 #[.int .i64 a, .int .i64 b] w fun e w' => e = .returned (.int .i64 (Gal.sub a b)) ∧ w = w' := by
  have h1 := Gal.clamp_lo a; have h2 := Gal.clamp_hi a; have h3 := Gal.clamp_lo b; have h4 := Gal.clamp_hi b
  go_enter Tryd.func55, Tryd.ntmps55
  go_wp2_with (go_at_call 71; refine (rclamp_any _ _).mono ?_; rintro e w' ⟨rfl, rfl⟩)
  go_ret
  exact ⟨rfl, rfl⟩
theorem tdiv_neg {p : Int} (h : p < 0) : p.tdiv 256 = -((-p) / 256) := by
  have h1 : (-(-p)).tdiv 256 = -((-p).tdiv 256) := Int.neg_tdiv _ _
  rw [Int.neg_neg] at h1
  rw [h1, Int.tdiv_eq_ediv_of_nonneg (by omega)]
theorem rmul_any (a b : Int) (w : World) : Calls Tryd.prog 66 #[.int .i64 a, .int .i64 b] w fun e w' => e = .returned (.int .i64 (Gal.mul a b)) ∧ w = w' := by
  have h1 := Gal.clamp_lo a; have h2 := Gal.clamp_hi a; have h3 := Gal.clamp_lo b; have h4 := Gal.clamp_hi b
  obtain ⟨h5, h6⟩ := Gal.mul_bd a b
  have hm : Gal.mul a b = Gal.clamp (Gal.clamp a * Gal.clamp b / 256) := rfl
  rw [hm]
  clear hm
  by_cases h0 : Gal.clamp a * Gal.clamp b < 0
  · obtain ⟨Q, hQ⟩ : ∃ Q, (Gal.clamp a * Gal.clamp b).tdiv 256 = Q := ⟨_, rfl⟩
    have hq := tdiv_neg h0
    rw [hQ] at hq
    have q1 : -4611686014132420609 ≤ Q * 256 := by omega
    have q2 : Q * 256 ≤ 0 := by omega
    by_cases hz : Q * 256 = Gal.clamp a * Gal.clamp b
    · have hne : (Q * 256 != Gal.clamp a * Gal.clamp b) = false := by simp [hz]
      have hr : Gal.clamp a * Gal.clamp b / 256 = Q := by omega
      have HR := Lib.hid hr
      clear hr hz hq
      go_enter Tryd.func66, Tryd.ntmps66
      go_wp2_with (go_at_call 71; refine (rclamp_any _ _).mono ?_; rintro e w' ⟨rfl, rfl⟩)
      go_ret
      exact ⟨ret_int (by rw [HR.out]), rfl⟩
    · have hne : (Q * 256 != Gal.clamp a * Gal.clamp b) = true := by simp [hz]
      have hr : Gal.clamp a * Gal.clamp b / 256 = Q - 1 := by omega
      have HR := Lib.hid hr
      clear hr hz hq
      go_enter Tryd.func66, Tryd.ntmps66
      go_wp2_with (go_at_call 71; refine (rclamp_any _ _).mono ?_; rintro e w' ⟨rfl, rfl⟩)
      go_ret
      exact ⟨ret_int (by rw [HR.out]), rfl⟩
  · have hr : (Gal.clamp a * Gal.clamp b).tdiv 256 = Gal.clamp a * Gal.clamp b / 256 := Int.tdiv_eq_ediv_of_nonneg (by omega)
    go_enter Tryd.func66, Tryd.ntmps66
    go_wp2_with (go_at_call 71; refine (rclamp_any _ _).mono ?_; rintro e w' ⟨rfl, rfl⟩)
    go_ret
    exact ⟨rfl, rfl⟩
end Go.Proofs.YtikcdjibflleeaaDoor
