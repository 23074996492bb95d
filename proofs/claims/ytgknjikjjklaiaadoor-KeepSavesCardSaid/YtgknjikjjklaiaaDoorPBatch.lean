/- Plain: how rows are cut into parts. No program in sight. -/
import Derived.Test.YtgknjikjjklaiaaDoorBaseP
set_option linter.unusedVariables false
set_option linter.unusedSimpArgs false
namespace Gal
def ints (l : List Nat) : List Int := l.map fun (n : Nat) => (n : Int)
theorem ints_snoc (l : List Nat) (n : Nat) : ints (l ++ [n]) = ints l ++ [(n : Int)] := by simp [ints]
theorem ints_length (l : List Nat) : (ints l).length = l.length := by simp [ints]
/-- how many rows each of so many parts has -/
def sizesOf : Nat → Nat → List Nat
  | _, 0 => []
  | rows, left + 1 => (rows + left) / (left + 1) :: sizesOf (rows - (rows + left) / (left + 1)) left
theorem sizesOf_succ (rows left : Nat) : sizesOf rows (left + 1) = (rows + left) / (left + 1) :: sizesOf (rows - (rows + left) / (left + 1)) left := rfl
def sizesFault (rows parts : Int) : Int := if rows < 1 ∨ 24 < rows ∨ parts < 1 ∨ 12 < parts then 1 else if rows < parts then 2 else 0
theorem sizesOf_length (left : Nat) : ∀ rows, (sizesOf rows left).length = left := by
  induction left with
  | zero => intro rows; rfl
  | succ left ih => intro rows; simp [sizesOf, ih]
theorem share_le (rows left : Nat) : (rows + left) / (left + 1) ≤ rows := by
  rw [Nat.div_le_iff_le_mul_add_pred (by omega)]
  have : rows ≤ (left + 1) * rows := Nat.le_mul_of_pos_left rows (by omega)
  omega
theorem share_pos {rows left : Nat} (h : left + 1 ≤ rows) : 1 ≤ (rows + left) / (left + 1) := by
  rw [Nat.le_div_iff_mul_le (by omega)]; omega
theorem share_rest {rows left : Nat} (h : left + 1 ≤ rows) : left ≤ rows - (rows + left) / (left + 1) := by
  have h1 : (rows + left) / (left + 1) ≤ rows - left := by
    rw [Nat.div_le_iff_le_mul_add_pred (by omega)]
    have h2 : left * 1 ≤ left * (rows - left) := Nat.mul_le_mul_left _ (by omega)
    rw [Nat.add_mul]
    omega
  omega
theorem sizesOf_sum (left : Nat) : ∀ rows, 1 ≤ left → (sizesOf rows left).sum = rows := by
  induction left with
  | zero => intro rows h; omega
  | succ left ih =>
    intro rows _
    unfold sizesOf
    rw [List.sum_cons]
    have h1 := share_le rows left
    rcases Nat.eq_zero_or_pos left with h0 | h0
    · subst h0
      simp [sizesOf]
    · rw [ih _ h0]
      omega
theorem sizesOf_pos (left : Nat) : ∀ rows, left ≤ rows → ∀ n ∈ sizesOf rows left, 1 ≤ n := by
  induction left with
  | zero => intro rows h n hn; simp [sizesOf] at hn
  | succ left ih =>
    intro rows h n hn
    unfold sizesOf at hn
    rcases List.mem_cons.1 hn with rfl | hn
    · exact share_pos h
    · exact ih _ (share_rest h) n hn
/-- each part has q or q + 1 rows -/
theorem sizesOf_near (left : Nat) : ∀ rows q, q * left ≤ rows → rows ≤ (q + 1) * left → ∀ n ∈ sizesOf rows left, q ≤ n ∧ n ≤ q + 1 := by
  induction left with
  | zero => intro rows q h1 h2 n hn; simp [sizesOf] at hn
  | succ left ih =>
    intro rows q h1 h2 n hn
    have d1 : q ≤ (rows + left) / (left + 1) := by rw [Nat.le_div_iff_mul_le (by omega)]; omega
    have d2 : (rows + left) / (left + 1) ≤ q + 1 := by
      rw [Nat.div_le_iff_le_mul_add_pred (by omega)]
      rw [Nat.mul_comm]
      omega
    unfold sizesOf at hn
    rcases List.mem_cons.1 hn with rfl | hn
    · exact ⟨d1, d2⟩
    · rw [Nat.mul_add, Nat.mul_one] at h1 h2
      rcases (by omega : (rows + left) / (left + 1) = q ∨ (rows + left) / (left + 1) = q + 1) with e | e
      · rw [e] at hn
        have hq : rows ≤ q * left + q := by
          have := Nat.lt_mul_div_succ (rows + left) (show 0 < left + 1 by omega)
          rw [e, Nat.add_mul, Nat.mul_add, Nat.mul_one, Nat.one_mul] at this
          rw [Nat.mul_comm]
          omega
        exact ih (rows - q) q (by omega) (by rw [Nat.add_mul]; omega) n hn
      · rw [e] at hn
        have hq : q * left + q + 1 ≤ rows := by
          have := Nat.div_mul_le_self (rows + left) (left + 1)
          rw [e, Nat.add_mul, Nat.mul_add, Nat.mul_one, Nat.one_mul] at this
          omega
        exact ih (rows - (q + 1)) q (by omega) (by omega) n hn
/-- the greater ones are first -/
theorem sizesOf_falls (left : Nat) : ∀ rows, ∀ i, i + 1 < left → (sizesOf rows left)[i + 1]?.getD 0 ≤ (sizesOf rows left)[i]?.getD 0 := by
  induction left with
  | zero => intro rows i h; omega
  | succ left ih =>
    intro rows i hi
    cases i with
    | succ i =>
      simp only [sizesOf, List.getElem?_cons_succ]
      exact ih _ i (by omega)
    | zero =>
      cases left with
      | zero => omega
      | succ left =>
        simp only [sizesOf, List.getElem?_cons_succ, List.getElem?_cons_zero, Option.getD_some]
        generalize hn : (rows + (left + 1)) / (left + 1 + 1) = n
        have h1 : rows ≤ n * (left + 2) := by
          have := Nat.lt_mul_div_succ (rows + (left + 1)) (show 0 < left + 1 + 1 by omega)
          rw [hn, Nat.mul_add, Nat.mul_one] at this
          rw [Nat.mul_comm]
          show rows ≤ (left + 1 + 1) * n
          omega
        rw [Nat.div_le_iff_le_mul_add_pred (by omega), Nat.mul_comm]
        rw [Nat.mul_add] at h1
        rw [Nat.mul_add]
        omega
end Gal
