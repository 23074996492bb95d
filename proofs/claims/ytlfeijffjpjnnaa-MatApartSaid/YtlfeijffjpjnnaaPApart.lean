/- Plain: rows taken apart and stacked. No program in sight. -/
import Derived.Test.YtlfeijffjpjnnaaPStack
set_option linter.unusedVariables false
set_option linter.unusedSimpArgs false
set_option linter.unusedSectionVars false
namespace Gal

theorem ix_take {xs : List Int} {n i : Nat} (h : i < n) : ix (xs.take n) i = ix xs i := by unfold ix; rw [List.getElem?_take_of_lt h]
theorem ix_drop {xs : List Int} {n i : Nat} : ix (xs.drop n) i = ix xs (n + i) := by unfold ix; rw [List.getElem?_drop]
theorem inEnds_take {xs : List Int} (h : inEnds xs) (n : Nat) : inEnds (xs.take n) := by
  intro j hj
  rw [List.length_take] at hj
  rw [ix_take (by omega)]
  exact h j (by omega)
theorem inEnds_drop {xs : List Int} (h : inEnds xs) (n : Nat) : inEnds (xs.drop n) := by
  intro j hj
  rw [List.length_drop] at hj
  rw [ix_drop]
  exact h _ (by omega)
/-- the rows ahead of the k-th, and those from it on -/
def topOf (R K : Nat) (xs : List Int) (k : Nat) : Mat := ⟨k, K, xs.take (k * K)⟩
def botOf (R K : Nat) (xs : List Int) (k : Nat) : Mat := ⟨(R - k : Nat), K, xs.drop (k * K)⟩
section
variable {R K k : Nat} {xs : List Int} (hk : k ≤ R) (hl : xs.length = R * K)
include hk hl
theorem kK : k * K ≤ R * K := Nat.mul_le_mul_right K hk
theorem rows_top : matRows ⟨R, K, xs⟩ 0 k = topOf R K xs k := by
  unfold matRows topOf piece
  simp
theorem rows_bot : matRows ⟨R, K, xs⟩ k R = botOf R K xs k := by
  unfold matRows botOf piece
  have h : ((R : Int) - k) = ((R - k : Nat) : Int) := by omega
  simp only [h, Int.toNat_natCast]
  rw [← hl, List.take_length]
theorem rowsFault_top (hf : (⟨R, K, xs⟩ : Mat).fault = 0) : rowsFault ⟨R, K, xs⟩ 0 k = 0 := by
  unfold rowsFault
  rw [if_pos hf, if_neg (by dsimp only; omega)]
theorem rowsFault_bot (hf : (⟨R, K, xs⟩ : Mat).fault = 0) : rowsFault ⟨R, K, xs⟩ k R = 0 := by
  unfold rowsFault
  rw [if_pos hf, if_neg (by dsimp only; omega)]
theorem top_fault (hR : R ≤ 24) (hK : K ≤ 12) (he : inEnds xs) : (topOf R K xs k).fault = 0 := by
  have := kK hk hl
  exact matFault_zero (by omega) hK (by show (xs.take (k * K)).length = _; rw [List.length_take]; omega) (inEnds_take he _)
theorem bot_fault (hR : R ≤ 24) (hK : K ≤ 12) (he : inEnds xs) : (botOf R K xs k).fault = 0 := by
  have := kK hk hl
  exact matFault_zero (by omega) hK (by show (xs.drop (k * K)).length = _; rw [List.length_drop, Nat.sub_mul]; omega) (inEnds_drop he _)
theorem stack_two {a b : Mat} (ha : a.fault = 0) (hb : b.fault = 0) (hc : a.cols = b.cols) (hr : a.rows + b.rows ≤ 24) : stackFault [a, b] = 0 := by
  have h1 : firstFault [a, b] = 0 := firstFault_two.2 ⟨ha, hb⟩
  unfold stackFault
  rw [if_neg (by rw [h1]; omega), if_neg (by simp), if_neg, if_neg]
  · show ¬ 24 < 0 + a.rows + b.rows
    omega
  · intro h
    apply h
    intro j hj
    rcases (by simp at hj; omega : j = 0 ∨ j = 1) with rfl | rfl
    · rfl
    · exact hc.symm
theorem stack_is {a b : Mat} : matStack [a, b] = ⟨a.rows + b.rows, a.cols, a.cells ++ b.cells⟩ := by
  show (⟨0 + a.rows + b.rows, a.cols, [] ++ a.cells ++ b.cells⟩ : Mat) = _
  rw [Int.zero_add, List.nil_append]
theorem stack_back : matStack [topOf R K xs k, botOf R K xs k] = ⟨R, K, xs⟩ := by
  rw [stack_is hk hl]
  unfold topOf botOf
  simp only [List.take_append_drop]
  congr 1
  omega
theorem grid_split (g : Nat → Nat → Int) (C r : Nat) : grid g C (k + r) = grid g C k ++ grid (fun i => g (k + i)) C r := by
  induction r with
  | zero => simp [grid]
  | succ r ih => rw [← Nat.add_assoc, ← gridTo_row, ← gridTo_row]; unfold gridTo; rw [ih, List.append_assoc]
theorem mul_parts {C : Nat} {ys : List Int} : matStack [matMul (topOf R K xs k) ⟨K, C, ys⟩, matMul (botOf R K xs k) ⟨K, C, ys⟩] = matMul ⟨R, K, xs⟩ ⟨K, C, ys⟩ := by
  rw [stack_is hk hl]
  unfold matMul topOf botOf
  simp only [Int.toNat_natCast]
  have h1 : grid (mulCell (xs.take (k * K)) ys K C) C k = grid (mulCell xs ys K C) C k := grid_congr fun i j hi hj => by
    unfold mulCell
    exact sumTo_congr fun t ht => by rw [ix_take (cell_lt hi ht)]
  have h2 : grid (mulCell (xs.drop (k * K)) ys K C) C (R - k) = grid (fun i => mulCell xs ys K C (k + i)) C (R - k) := grid_congr fun i j hi hj => by
    unfold mulCell
    exact sumTo_congr fun t ht => by rw [ix_drop, Nat.add_mul, Nat.add_assoc]
  rw [h1, h2, ← grid_split hk hl, show k + (R - k) = R by omega]
  congr 1
  omega
end
end Gal
