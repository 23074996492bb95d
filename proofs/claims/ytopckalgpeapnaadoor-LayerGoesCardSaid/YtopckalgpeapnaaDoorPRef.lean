/- Plain: matrices that are filled cell by cell, in the order of their places. No program in sight. -/
import Derived.Test.YtopckalgpeapnaaDoorPPad
import Derived.Test.YtopckalgpeapnaaDoorPTurn
set_option linter.unusedVariables false
set_option linter.unusedSimpArgs false
namespace Gal
theorem upto_set {s : Nat → Int} {n p : Nat} {v : Int} (hp : p < n) : (upto s n).set p v = upto (fun q => if q = p then v else s q) n := by
  refine eq_of_ix (by rw [List.length_set, upto_length, upto_length]) fun j hj => ?_
  rw [List.length_set, upto_length] at hj
  rw [ix_set (by rw [upto_length]; exact hp), upto_ix hj, upto_ix hj]
  by_cases h : p = j
  · subst h; rw [if_pos rfl]
  · rw [if_neg h, if_neg (fun e => h e.symm)]
theorem place_div {i j C : Nat} (hj : j < C) : (i * C + j) / C = i := by
  rw [Nat.mul_comm, Nat.mul_add_div (by omega), Nat.div_eq_of_lt hj, Nat.add_zero]
theorem place_mod {i j C : Nat} (hj : j < C) : (i * C + j) % C = j := by
  rw [Nat.mul_comm, Nat.mul_add_mod, Nat.mod_eq_of_lt hj]
theorem grid_upto (g : Nat → Nat → Int) (R C : Nat) : grid g C R = upto (fun p => g (p / C) (p % C)) (R * C) := by
  symm
  refine eq_grid (upto_length _ _) fun i j hi hj => ?_
  rw [upto_ix (cell_lt hi hj), place_div hj, place_mod hj]
theorem zeros_upto (n : Nat) : zeros n = upto (fun _ => 0) n := by
  refine eq_of_ix (by rw [zeros_length, upto_length]) fun j hj => ?_
  rw [zeros_length] at hj
  rw [zeros_ix, upto_ix hj]
theorem place_is (p C : Nat) : p / C * C + p % C = p := by rw [Nat.mul_comm]; exact Nat.div_add_mod p C

/-- a turned matrix, filled so far -/
def turnS (xs : List Int) (R K i j p : Nat) : Int := if p % R < i ∨ p % R = i ∧ p / R < j then ix xs (p % R * K + p / R) else 0
theorem turnS_zero (xs : List Int) (R K : Nat) : upto (turnS xs R K 0 0) (K * R) = zeros (K * R) := by
  rw [zeros_upto]
  refine upto_congr fun p hp => ?_
  unfold turnS
  generalize p % R = m
  generalize p / R = q
  rw [if_neg (by omega)]
theorem turnS_cell {xs : List Int} {R K i j : Nat} (hi : i < R) (hj : j < K) : (upto (turnS xs R K i j) (K * R)).set (j * R + i) (ix xs (i * K + j)) = upto (turnS xs R K i (j + 1)) (K * R) := by
  rw [upto_set (cell_lt hj hi)]
  refine upto_congr fun p hp => ?_
  unfold turnS
  by_cases h : p = j * R + i
  · rw [if_pos h, h, place_mod hi, place_div hi, if_pos (by omega)]
  · rw [if_neg h]
    have h' : ¬ (p % R = i ∧ p / R = j) := fun ⟨e1, e2⟩ => h (by have := place_is p R; rw [e1, e2] at this; exact this.symm)
    generalize p % R = m at *
    generalize p / R = q at *
    by_cases h2 : m < i ∨ m = i ∧ q < j
    · rw [if_pos h2, if_pos (by omega)]
    · rw [if_neg h2, if_neg (by omega)]
theorem turnS_row {xs : List Int} {R K i : Nat} (hR : 0 < R) : upto (turnS xs R K i K) (K * R) = upto (turnS xs R K (i + 1) 0) (K * R) := by
  refine upto_congr fun p hp => ?_
  unfold turnS
  have h : p / R < K := Nat.div_lt_of_lt_mul (by rw [Nat.mul_comm]; exact hp)
  generalize p % R = m at *
  generalize p / R = q at *
  by_cases h2 : m < i ∨ m = i ∧ q < K
  · rw [if_pos h2, if_pos (by omega)]
  · rw [if_neg h2, if_neg (by omega)]
theorem turnS_all {xs : List Int} {R K : Nat} : (⟨K, R, upto (turnS xs R K R 0) (K * R)⟩ : Mat) = matTurn ⟨R, K, xs⟩ := by
  unfold matTurn
  simp only [Int.toNat_natCast]
  rw [grid_upto]
  congr 1
  refine upto_congr fun p hp => ?_
  unfold turnS
  have hR : 0 < R := by
    rcases Nat.eq_zero_or_pos R with h | h
    · rw [h, Nat.mul_zero] at hp; omega
    · exact h
  rw [if_pos (Or.inl (Nat.mod_lt _ hR))]

/-- a product, filled so far -/
def mulS (xs ys : List Int) (K C k q p : Nat) : Int := sumTo (fun t => mul (ix xs (p / C * K + t)) (ix ys (t * C + p % C))) (if p < q then k + 1 else k)
theorem mulS_zero (xs ys : List Int) (K C n : Nat) : upto (mulS xs ys K C 0 0) n = zeros n := by
  rw [zeros_upto]
  refine upto_congr fun p hp => ?_
  unfold mulS
  rw [if_neg (by omega)]
  rfl
theorem mulS_at {xs ys : List Int} {K C k i j : Nat} (hj : j < C) : mulS xs ys K C k (i * C + j) (i * C + j) = sumTo (fun t => mul (ix xs (i * K + t)) (ix ys (t * C + j))) k := by
  unfold mulS
  rw [if_neg (by omega), place_div hj, place_mod hj]
theorem mulS_cell {xs ys : List Int} {R K C k i j : Nat} (hi : i < R) (hj : j < C) :
    (upto (mulS xs ys K C k (i * C + j)) (R * C)).set (i * C + j) (add (sumTo (fun t => mul (ix xs (i * K + t)) (ix ys (t * C + j))) k) (mul (ix xs (i * K + k)) (ix ys (k * C + j)))) = upto (mulS xs ys K C k (i * C + (j + 1))) (R * C) := by
  rw [upto_set (cell_lt hi hj)]
  refine upto_congr fun p hp => ?_
  unfold mulS
  by_cases h : p = i * C + j
  · rw [if_pos h, h, if_pos (by omega), place_div hj, place_mod hj]; rfl
  · rw [if_neg h]
    by_cases h2 : p < i * C + j
    · rw [if_pos h2, if_pos (by omega)]
    · rw [if_neg h2, if_neg (by omega)]
theorem mulS_row (xs ys : List Int) (K C k i n : Nat) : upto (mulS xs ys K C k (i * C + C)) n = upto (mulS xs ys K C k ((i + 1) * C + 0)) n := by rw [Nat.succ_mul, Nat.add_zero]
theorem mulS_next (xs ys : List Int) (R K C k : Nat) : upto (mulS xs ys K C k (R * C + 0)) (R * C) = upto (mulS xs ys K C (k + 1) (0 * C + 0)) (R * C) := by
  refine upto_congr fun p hp => ?_
  unfold mulS
  rw [if_pos (by omega), if_neg (by omega)]
theorem mulS_all {xs ys : List Int} {R K C : Nat} : (⟨R, C, upto (mulS xs ys K C K (0 * C + 0)) (R * C)⟩ : Mat) = matMul ⟨R, K, xs⟩ ⟨K, C, ys⟩ := by
  unfold matMul
  simp only [Int.toNat_natCast]
  rw [grid_upto]
  congr 1
  refine upto_congr fun p hp => ?_
  unfold mulS mulCell
  rw [if_neg (by omega)]

/-- sums of columns -/
def matSums (a : Mat) : Mat := ⟨1, a.cols, grid (fun _ j => sumTo (fun i => ix a.cells (i * a.cols.toNat + j)) a.rows.toNat) a.cols.toNat 1⟩
def sumS (xs : List Int) (K q c j : Nat) : Int := sumTo (fun i => ix xs (i * K + j)) (if j < c then q + 1 else q)
theorem sumS_zero (xs : List Int) (K n : Nat) : upto (sumS xs K 0 0) n = zeros n := by
  rw [zeros_upto]
  refine upto_congr fun p hp => ?_
  unfold sumS
  rw [if_neg (by omega)]
  rfl
theorem sumS_at (xs : List Int) (K q c : Nat) : sumS xs K q c c = sumTo (fun i => ix xs (i * K + c)) q := by unfold sumS; rw [if_neg (by omega)]
theorem sumS_cell {xs : List Int} {K q c : Nat} (hc : c < K) : (upto (sumS xs K q c) K).set c (add (sumTo (fun i => ix xs (i * K + c)) q) (ix xs (q * K + c))) = upto (sumS xs K q (c + 1)) K := by
  rw [upto_set hc]
  refine upto_congr fun p hp => ?_
  unfold sumS
  by_cases h : p = c
  · rw [if_pos h, h, if_pos (by omega)]; rfl
  · rw [if_neg h]
    by_cases h2 : p < c
    · rw [if_pos h2, if_pos (by omega)]
    · rw [if_neg h2, if_neg (by omega)]
theorem sumS_next (xs : List Int) (K q : Nat) : upto (sumS xs K q K) K = upto (sumS xs K (q + 1) 0) K := by
  refine upto_congr fun p hp => ?_
  unfold sumS
  rw [if_pos hp, if_neg (by omega)]
theorem sumS_all {xs : List Int} {R K : Nat} : (⟨1, K, upto (sumS xs K R 0) (1 * K)⟩ : Mat) = matSums ⟨R, K, xs⟩ := by
  unfold matSums
  simp only [Int.toNat_natCast]
  rw [grid_upto]
  congr 1
  refine upto_congr fun p hp => ?_
  unfold sumS
  rw [if_neg (by omega)]
  rw [Nat.one_mul] at hp
  rw [Nat.mod_eq_of_lt hp]
/-- rows of a matrix -/
theorem rows_upto {R K L H : Nat} {xs : List Int} (hLH : L ≤ H) (hHR : H ≤ R) (hl : xs.length = R * K) : matRows ⟨R, K, xs⟩ L H = ⟨(H - L : Nat), K, upto (fun k => ix xs (L * K + k)) ((H - L) * K)⟩ := by
  unfold matRows
  simp only [Int.toNat_natCast]
  have e : (H : Int) - L = ((H - L : Nat) : Int) := by omega
  rw [e]
  congr 1
  have h1 : H * K ≤ R * K := Nat.mul_le_mul_right K hHR
  have h2 : (H - L) * K = H * K - L * K := Nat.sub_mul _ _ _
  refine eq_of_ix (by rw [piece_length (by omega), upto_length, h2]) fun j hj => ?_
  rw [piece_length (by omega)] at hj
  rw [piece_ix hj, upto_ix (by omega)]
/-- all cells by one number -/
def matTimes (a : Mat) (x : Int) : Mat := ⟨a.rows, a.cols, upto (fun k => mul (ix a.cells k) x) a.cells.length⟩
def matAdd (a b : Mat) : Mat := ⟨a.rows, a.cols, upto (fun k => add (ix a.cells k) (ix b.cells k)) a.cells.length⟩
end Gal
