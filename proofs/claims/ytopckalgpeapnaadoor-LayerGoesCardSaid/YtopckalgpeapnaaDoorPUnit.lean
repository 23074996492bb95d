/- Plain: the matrix of ones on its diagonal changes nothing. No program in sight. -/
import Derived.Test.YtopckalgpeapnaaDoorPMat2
set_option linter.unusedVariables false
set_option linter.unusedSimpArgs false
namespace Gal

theorem eq_of_ix {xs ys : List Int} (hl : xs.length = ys.length) (h : ∀ j, j < xs.length → ix xs j = ix ys j) : xs = ys := by
  apply List.ext_getElem hl
  intro i h1 h2
  have := h i h1
  unfold ix at this
  rw [List.getElem?_eq_getElem h1, List.getElem?_eq_getElem h2] at this
  simpa using this
theorem ix_set {xs : List Int} {i j : Nat} {v : Int} (hi : i < xs.length) : ix (xs.set i v) j = if i = j then v else ix xs j := by
  unfold ix
  rw [List.getElem?_set]
  by_cases h : i = j
  · subst h; simp [hi]
  · simp [h]
/-- an index of a matrix is a row and a column -/
theorem row_col {k C R : Nat} (h : k < R * C) : ∃ i j, i < R ∧ j < C ∧ k = i * C + j := by
  have hC : 0 < C := by
    rcases Nat.eq_zero_or_pos C with h0 | h0
    · subst h0; simp at h
    · exact h0
  refine ⟨k / C, k % C, ?_, Nat.mod_lt _ hC, ?_⟩
  · exact (Nat.div_lt_iff_lt_mul hC).2 h
  · have := Nat.div_add_mod k C; rw [Nat.mul_comm] at this; exact this.symm
theorem cell_inj {i j i' j' C : Nat} (hj : j < C) (hj' : j' < C) (h : i * C + j = i' * C + j') : i = i' ∧ j = j' := by
  have h1 : (i * C + j) / C = i := by rw [Nat.mul_comm, Nat.mul_add_div (by omega), Nat.div_eq_of_lt hj, Nat.add_zero]
  have h2 : (i' * C + j') / C = i' := by rw [Nat.mul_comm, Nat.mul_add_div (by omega), Nat.div_eq_of_lt hj', Nat.add_zero]
  rw [h] at h1
  have h3 : i = i' := h1.symm.trans h2
  subst h3
  exact ⟨rfl, by omega⟩
/-- a list is a grid if its cells are -/
theorem eq_grid {xs : List Int} {g : Nat → Nat → Int} {R C : Nat} (hl : xs.length = R * C) (h : ∀ i j, i < R → j < C → ix xs (i * C + j) = g i j) : xs = grid g C R := by
  refine eq_of_ix (by rw [hl, grid_length]) fun k hk => ?_
  obtain ⟨i, j, hi, hj, rfl⟩ := row_col (by rw [← hl]; exact hk)
  rw [h i j hi hj, grid_ix g C R i j hi hj]
theorem grid_congr {g g' : Nat → Nat → Int} {R C : Nat} (h : ∀ i j, i < R → j < C → g i j = g' i j) : grid g C R = grid g' C R :=
  eq_grid (grid_length _ _ _) fun i j hi hj => by rw [grid_ix g C R i j hi hj, h i j hi hj]

def zeros (n : Nat) : List Int := List.replicate n 0
theorem zeros_length (n : Nat) : (zeros n).length = n := List.length_replicate
theorem zeros_ix (n k : Nat) : ix (zeros n) k = 0 := by unfold ix zeros; by_cases h : k < n <;> simp [h]
/-- ones on the diagonal's first i places -/
def unitTo (n i : Nat) : List Int := grid (fun r c => if r = c ∧ r < i then 256 else 0) n n
theorem unitTo_zero (n : Nat) : unitTo n 0 = zeros (n * n) :=
  (eq_grid (zeros_length _) fun i j _ _ => by rw [zeros_ix]; simp).symm
theorem unitTo_succ {n i : Nat} (hi : i < n) : (unitTo n i).set (i * n + i) 256 = unitTo n (i + 1) := by
  refine eq_grid (by simp [unitTo, grid_length]) fun r c hr hc => ?_
  rw [ix_set (by unfold unitTo; rw [grid_length]; exact cell_lt hi hi)]
  by_cases h : i * n + i = r * n + c
  · rw [if_pos h]
    obtain ⟨rfl, rfl⟩ := cell_inj hi hc h
    simp
  · rw [if_neg h]
    unfold unitTo
    rw [grid_ix _ n n r c hr hc]
    by_cases h1 : r = c
    · subst h1
      have : r ≠ i := fun e => h (by rw [e])
      by_cases h2 : r < i
      · rw [if_pos ⟨rfl, h2⟩, if_pos ⟨rfl, by omega⟩]
      · rw [if_neg (by omega), if_neg (by omega)]
    · simp [h1]
theorem mul_one (x : Int) : mul x 256 = clamp x := by
  unfold mul
  have h1 := clamp_lo x
  have h2 := clamp_hi x
  rw [clamp_id (x := 256) (by omega) (by omega), Int.mul_ediv_cancel _ (by omega), clamp_clamp]
theorem mul_zero (x : Int) : mul x 0 = 0 := by
  unfold mul
  rw [clamp_id (x := 0) (by omega) (by omega), Int.mul_zero]
  rfl
theorem add_zero (x : Int) : add x 0 = clamp x := by
  unfold add
  rw [clamp_id (x := 0) (by omega) (by omega), Int.add_zero, clamp_clamp]
theorem zero_add (x : Int) : add 0 x = clamp x := by
  unfold add
  rw [clamp_id (x := 0) (by omega) (by omega), Int.zero_add, clamp_clamp]
theorem sumTo_one {f : Nat → Int} {X : Int} {j : Nat} (hX : clamp X = X) (hj : f j = X) (h : ∀ k, k ≠ j → f k = 0) : ∀ n, sumTo f n = if j < n then X else 0
  | 0 => rfl
  | n + 1 => by
    rw [sumTo_succ, sumTo_one hX hj h n]
    by_cases h1 : j < n
    · rw [if_pos h1, if_pos (by omega), h n (by omega), add_zero, hX]
    · rw [if_neg h1]
      by_cases h2 : j = n
      · subst h2; rw [if_pos (by omega), hj, zero_add, hX]
      · rw [if_neg (by omega), h n (fun e => h2 e.symm), add_zero]; rfl
theorem inEnds_ix {xs : List Int} (h : inEnds xs) {k : Nat} (hk : k < xs.length) : clamp (ix xs k) = ix xs k := h k hk
theorem unit_law {R K : Nat} {xs : List Int} (hl : xs.length = R * K) (he : inEnds xs) : matMul ⟨R, K, xs⟩ ⟨K, K, unitTo K K⟩ = ⟨R, K, xs⟩ := by
  show (⟨_, _, _⟩ : Mat) = _
  have : grid (mulCell xs (unitTo K K) K K) K R = xs := by
    refine (eq_grid hl fun i j hi hj => ?_).symm
    unfold mulCell
    rw [sumTo_one (X := ix xs (i * K + j)) (j := j) (he _ (by rw [hl]; exact cell_lt hi hj)) ?_ ?_ K, if_pos hj]
    · unfold unitTo
      rw [grid_ix _ K K j j hj hj, if_pos ⟨rfl, hj⟩, mul_one]
      exact he _ (by rw [hl]; exact cell_lt hi hj)
    · intro k hk
      by_cases hkK : k < K
      · unfold unitTo
        rw [grid_ix _ K K k j hkK hj, if_neg (fun h => hk h.1), mul_zero]
      · have : ix (unitTo K K) (k * K + j) = 0 := by
          unfold ix
          rw [List.getElem?_eq_none]
          · rfl
          · unfold unitTo
            rw [grid_length]
            have := Nat.mul_le_mul_right K (show K ≤ k by omega)
            omega
        rw [this, mul_zero]
  rw [Int.toNat_natCast, Int.toNat_natCast]
  exact congrArg _ this
theorem unit_ok {K : Nat} (hK : K ≤ 12) : matFault K K (unitTo K K) = 0 := by
  refine matFault_zero (by omega) hK (grid_length _ _ _) fun k hk => ?_
  unfold unitTo at hk
  rw [grid_length] at hk
  obtain ⟨i, j, hi, hj, rfl⟩ := row_col hk
  unfold unitTo
  rw [grid_ix _ K K i j hi hj]
  by_cases h : i = j ∧ i < K
  · rw [if_pos h]; rfl
  · rw [if_neg h]; rfl
end Gal
