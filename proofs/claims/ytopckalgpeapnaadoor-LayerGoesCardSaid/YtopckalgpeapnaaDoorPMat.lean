/- Plain matrices: what the document's chapter 2 says, over lists of integers. No program in sight. -/
import Derived.Test.YtopckalgpeapnaaDoorPFix
set_option linter.unusedVariables false
set_option linter.unusedSimpArgs false
namespace Gal

structure Mat where
  rows : Int
  cols : Int
  cells : List Int

/-- the i-th of a list (0 beyond its end): a plain def, so that simp leaves it alone -/
def ix (xs : List Int) (i : Nat) : Int := xs[i]?.getD 0
/-- every cell lies between the ends -/
def inEnds (xs : List Int) : Prop := ∀ j, j < xs.length → clamp (ix xs j) = ix xs j
instance (xs : List Int) : Decidable (inEnds xs) := by unfold inEnds; exact inferInstance

/-- what is wrong with a matrix: 0, or the number of the error -/
def matFault (r c : Int) (xs : List Int) : Int :=
  if r < 0 ∨ 24 < r ∨ c < 0 ∨ 12 < c then 1 else if (xs.length : Int) ≠ r * c then 2 else if inEnds xs then 0 else 1

/-- i rows of C cells by a rule -/
def grid (g : Nat → Nat → Int) (C i : Nat) : List Int := (List.range i).flatMap fun i => (List.range C).map (g i)
/-- i rows, and j cells of the next one -/
def gridTo (g : Nat → Nat → Int) (C i j : Nat) : List Int := grid g C i ++ (List.range j).map (g i)
theorem gridTo_zero (g : Nat → Nat → Int) (C i : Nat) : gridTo g C i 0 = grid g C i := by simp [gridTo]
theorem gridTo_cell (g : Nat → Nat → Int) (C i j : Nat) : gridTo g C i j ++ [g i j] = gridTo g C i (j + 1) := by
  unfold gridTo; rw [List.range_succ, List.map_append, List.append_assoc]; rfl
theorem gridTo_row (g : Nat → Nat → Int) (C i : Nat) : gridTo g C i C = grid g C (i + 1) := by
  unfold gridTo grid; rw [List.range_succ, List.flatMap_append]; simp
theorem grid_length (g : Nat → Nat → Int) (C i : Nat) : (grid g C i).length = i * C := by
  induction i with
  | zero => simp [grid]
  | succ i ih => rw [← gridTo_row]; unfold gridTo; rw [List.length_append, ih]; simp [Nat.succ_mul]
theorem gridTo_length (g : Nat → Nat → Int) (C i j : Nat) : (gridTo g C i j).length = i * C + j := by
  unfold gridTo; rw [List.length_append, grid_length]; simp
theorem grid_ix (g : Nat → Nat → Int) (C R : Nat) (i j : Nat) (hi : i < R) (hj : j < C) : ix (grid g C R) (i * C + j) = g i j := by
  induction R with
  | zero => omega
  | succ R ih =>
    rw [← gridTo_row]
    unfold gridTo ix
    by_cases h : i < R
    · rw [List.getElem?_append_left (by rw [grid_length]; have := Nat.mul_le_mul_right C (show i + 1 ≤ R by omega); rw [Nat.succ_mul] at this; omega)]
      exact ih h
    · obtain rfl : i = R := by omega
      rw [List.getElem?_append_right (by rw [grid_length]; omega), grid_length]
      simp [show i * C + j - i * C = j by omega, hj]

/-- 0, and then one after the other added -/
def sumTo (f : Nat → Int) : Nat → Int
  | 0 => 0
  | n + 1 => add (sumTo f n) (f n)
/-- a cell of a product -/
def mulCell (xs ys : List Int) (ac bc : Nat) (i j : Nat) : Int := sumTo (fun k => mul (ix xs (i * ac + k)) (ix ys (k * bc + j))) ac
theorem sumTo_succ (f : Nat → Int) (n : Nat) : sumTo f (n + 1) = add (sumTo f n) (f n) := rfl
theorem cell_lt {i j R C : Nat} (hi : i < R) (hj : j < C) : i * C + j < R * C := by
  have := Nat.mul_le_mul_right C (show i + 1 ≤ R by omega)
  rw [Nat.succ_mul] at this
  omega

def Mat.fault (m : Mat) : Int := matFault m.rows m.cols m.cells
def Mat.none : Mat := ⟨0, 0, []⟩
/-- the i-th of a list of matrices -/
def mx (ms : List Mat) (i : Nat) : Mat := ms[i]?.getD Mat.none
/-- the first one's fault that has one -/
def firstFault : List Mat → Int
  | [] => 0
  | m :: r => if m.fault = 0 then firstFault r else m.fault
theorem firstFault_none {ms : List Mat} (h : ∀ j, j < ms.length → (mx ms j).fault = 0) : firstFault ms = 0 := by
  induction ms with
  | nil => rfl
  | cons m r ih =>
    have h0 : m.fault = 0 := h 0 (by simp)
    unfold firstFault
    rw [if_pos h0]
    exact ih fun j hj => h (j + 1) (by simpa using hj)
theorem firstFault_at {ms : List Mat} {k : Nat} (hk : k < ms.length) (h : ∀ j, j < k → (mx ms j).fault = 0) (hne : (mx ms k).fault ≠ 0) : firstFault ms = (mx ms k).fault := by
  induction ms generalizing k with
  | nil => simp at hk
  | cons m r ih =>
    unfold firstFault
    cases k with
    | zero => exact if_neg hne
    | succ k =>
      have h0 : m.fault = 0 := h 0 (by omega)
      rw [if_pos h0]
      exact ih (by simpa using hk) (fun j hj => h (j + 1) (by omega)) hne
end Gal
