/- Plain: a list that is filled from its beginning on. No program in sight. -/
import Derived.Test.YtopckalgpeapnaaDoorPLoss
import Derived.Test.YtopckalgpeapnaaDoorPUnit
set_option linter.unusedVariables false
set_option linter.unusedSimpArgs false
namespace Gal
/-- n cells, of which the first k are filled -/
def pad (g : Nat → Int) (n k : Nat) : List Int := upto (fun i => if i < k then g i else 0) n
theorem pad_length (g : Nat → Int) (n k : Nat) : (pad g n k).length = n := upto_length _ _
theorem pad_zero (g : Nat → Int) (n : Nat) : pad g n 0 = zeros n := by
  refine eq_of_ix (by rw [pad_length, zeros_length]) fun j hj => ?_
  rw [pad_length] at hj
  rw [zeros_ix]
  unfold pad
  rw [upto_ix hj, if_neg (Nat.not_lt_zero _)]
theorem pad_full (g : Nat → Int) (n : Nat) : pad g n n = upto g n := by
  refine eq_of_ix (by rw [pad_length, upto_length]) fun j hj => ?_
  rw [pad_length] at hj
  unfold pad
  rw [upto_ix hj, upto_ix hj, if_pos hj]
theorem pad_ix {g : Nat → Int} {n k j : Nat} (hj : j < n) : ix (pad g n k) j = if j < k then g j else 0 := by unfold pad; rw [upto_ix hj]
theorem pad_set {g : Nat → Int} {n k : Nat} (hk : k < n) : (pad g n k).set k (g k) = pad g n (k + 1) := by
  refine eq_of_ix (by rw [List.length_set, pad_length, pad_length]) fun j hj => ?_
  rw [List.length_set, pad_length] at hj
  rw [ix_set (by rw [pad_length]; exact hk), pad_ix hj, pad_ix hj]
  by_cases h : k = j
  · subst h; rw [if_pos rfl, if_pos (by omega)]
  · rw [if_neg h]
    by_cases h2 : j < k
    · rw [if_pos h2, if_pos (by omega)]
    · rw [if_neg h2, if_neg (by omega)]
theorem upto_congr {f g : Nat → Int} {n : Nat} (h : ∀ k, k < n → f k = g k) : upto f n = upto g n := by
  refine eq_of_ix (by rw [upto_length, upto_length]) fun j hj => ?_
  rw [upto_length] at hj
  rw [upto_ix hj, upto_ix hj, h j hj]
theorem upto_self {xs : List Int} : upto (ix xs) xs.length = xs := by
  refine eq_of_ix (upto_length _ _) fun j hj => ?_
  rw [upto_length] at hj
  rw [upto_ix hj]
end Gal
