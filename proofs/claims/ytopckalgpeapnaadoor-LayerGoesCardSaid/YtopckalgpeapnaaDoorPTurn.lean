/- Plain: a product, turned, is the product of the turned ones, the other way round. No program in sight. -/
import Derived.Test.YtopckalgpeapnaaDoorPUnit
set_option linter.unusedVariables false
set_option linter.unusedSimpArgs false
namespace Gal

theorem mul_comm (a b : Int) : mul a b = mul b a := by unfold mul; rw [Int.mul_comm]
theorem add_clamp (a b : Int) : clamp (add a b) = add a b := clamp_clamp _
theorem sumTo_clamp (f : Nat → Int) : ∀ n, clamp (sumTo f n) = sumTo f n
  | 0 => rfl
  | n + 1 => by rw [sumTo_succ]; exact add_clamp _ _
theorem sumTo_congr {f g : Nat → Int} : ∀ {n : Nat}, (∀ k, k < n → f k = g k) → sumTo f n = sumTo g n
  | 0, _ => rfl
  | n + 1, h => by rw [sumTo_succ, sumTo_succ, sumTo_congr (fun k hk => h k (by omega)), h n (by omega)]
theorem grid_inEnds {g : Nat → Nat → Int} {R C : Nat} (h : ∀ i j, i < R → j < C → clamp (g i j) = g i j) : inEnds (grid g C R) := by
  intro k hk
  rw [grid_length] at hk
  obtain ⟨i, j, hi, hj, rfl⟩ := row_col hk
  rw [grid_ix g C R i j hi hj]
  exact h i j hi hj
theorem matMul_fault {R K C : Nat} {xs ys : List Int} (hR : R ≤ 24) (hC : C ≤ 12) : (matMul ⟨R, K, xs⟩ ⟨K, C, ys⟩).fault = 0 :=
  matFault_zero hR hC (grid_length _ _ _) (grid_inEnds fun _ _ _ _ => sumTo_clamp _ _)
theorem turn_fault {R K : Nat} {xs : List Int} (hR : R ≤ 12) (hK : K ≤ 12) (hl : xs.length = R * K) (he : inEnds xs) : (matTurn ⟨R, K, xs⟩).fault = 0 :=
  matFault_zero (by omega) hR (grid_length _ _ _) (grid_inEnds fun i j hi hj => he _ (by rw [hl]; exact cell_lt hj hi))
theorem turn_law {R K C : Nat} {xs ys : List Int} (hx : xs.length = R * K) (hy : ys.length = K * C) :
    matTurn (matMul ⟨R, K, xs⟩ ⟨K, C, ys⟩) = matMul (matTurn ⟨K, C, ys⟩) (matTurn ⟨R, K, xs⟩) := by
  show (⟨_, _, _⟩ : Mat) = ⟨_, _, _⟩
  have : grid (fun i j => ix (grid (mulCell xs ys K C) C R) (j * C + i)) R C =
      grid (mulCell (grid (fun i j => ix ys (j * C + i)) K C) (grid (fun i j => ix xs (j * K + i)) R K) K R) R C := by
    refine grid_congr fun i j hi hj => ?_
    rw [grid_ix _ C R j i hj hi]
    unfold mulCell
    refine sumTo_congr fun k hk => ?_
    rw [grid_ix _ K C i k hi hk, grid_ix _ R K k j hk hj, mul_comm]
  exact congrArg _ this
end Gal
