/- Texts joined: BaseP. -/
section

section
set_option linter.unusedVariables false
set_option linter.unusedSimpArgs false
namespace Gal
def clamp (x : Int) : Int := max (-2147483647) (min x 2147483647)
def add (a b : Int) : Int := clamp (clamp a + clamp b)
def sub (a b : Int) : Int := clamp (clamp a - clamp b)
def mul (a b : Int) : Int := clamp (clamp a * clamp b / 256)
theorem clamp_lo (x : Int) : -2147483647 ≤ clamp x := by unfold clamp; omega
theorem clamp_hi (x : Int) : clamp x ≤ 2147483647 := by unfold clamp; omega
theorem clamp_id {x : Int} (h1 : -2147483647 ≤ x) (h2 : x ≤ 2147483647) : clamp x = x := by unfold clamp; omega
theorem clamp_clamp (x : Int) : clamp (clamp x) = clamp x := clamp_id (clamp_lo x) (clamp_hi x)
theorem mul_bd (a b : Int) : -4611686014132420609 ≤ clamp a * clamp b ∧ clamp a * clamp b ≤ 4611686014132420609 := by
 have ha := clamp_lo a; have ha' := clamp_hi a; have hb := clamp_lo b; have hb' := clamp_hi b
 generalize clamp a = x at *; generalize clamp b = y at *
 have hn : (x * y).natAbs ≤ 2147483647 * 2147483647 := by
  rw [Int.natAbs_mul]; exact Nat.mul_le_mul (by omega) (by omega)
 omega
end Gal
end
section
set_option linter.unusedVariables false
set_option linter.unusedSimpArgs false
namespace Gal
structure Mat where
 rows : Int
 cols : Int
 cells : List Int
def ix (xs : List Int) (i : Nat) : Int := xs[i]?.getD 0
def inEnds (xs : List Int) : Prop := ∀ j, j < xs.length → clamp (ix xs j) = ix xs j
instance (xs : List Int) : Decidable (inEnds xs) := by unfold inEnds; exact inferInstance
def matFault (r c : Int) (xs : List Int) : Int :=
 if r < 0 ∨ 24 < r ∨ c < 0 ∨ 12 < c then 1 else if (xs.length : Int) ≠ r * c then 2 else if inEnds xs then 0 else 1
def grid (g : Nat → Nat → Int) (C i : Nat) : List Int := (List.range i).flatMap fun i => (List.range C).map (g i)
def gridTo (g : Nat → Nat → Int) (C i j : Nat) : List Int := grid g C i ++ (List.range j).map (g i)
theorem gridTo_zero (g : Nat → Nat → Int) (C i : Nat) : gridTo g C i 0 = grid g C i := by simp [gridTo]
theorem gridTo_cell (g : Nat → Nat → Int) (C i j : Nat) : gridTo g C i j ++ [g i j] = gridTo g C i (j + 1) := by
 unfold gridTo; rw [List.range_succ, List.map_append, List.append_assoc]; rfl
theorem gridTo_row (g : Nat → Nat → Int) (C i : Nat) : gridTo g C i C = grid g C (i + 1) := by
 unfold gridTo grid; rw [List.range_succ, List.flatMap_append]; simp
theorem grid_length (g : Nat → Nat → Int) (C i : Nat) : (grid g C i).length = i * C := by
 induction i with
 | zero => simp [grid]
 | succ i ih => rw [← gridTo_row]; unfold gridTo; rw [List.length_append, ih]; simp [Nat.succ_mul]
theorem grid_ix (g : Nat → Nat → Int) (C R : Nat) (i j : Nat) (hi : i < R) (hj : j < C) : ix (grid g C R) (i * C + j) = g i j := by
 induction R with
 | zero => omega
 | succ R ih =>
  rw [← gridTo_row]
  unfold gridTo ix
  by_cases h : i < R
  ·rw [List.getElem?_append_left (by rw [grid_length]; have := Nat.mul_le_mul_right C (show i + 1 ≤ R by omega); rw [Nat.succ_mul] at this; omega)]
   exact ih h
  ·obtain rfl : i = R := by omega
   rw [List.getElem?_append_right (by rw [grid_length]; omega), grid_length]
   simp [show i * C + j - i * C = j by omega, hj]
def sumTo (f : Nat → Int) : Nat → Int
 | 0 => 0
 | n + 1 => add (sumTo f n) (f n)
def mulCell (xs ys : List Int) (ac bc : Nat) (i j : Nat) : Int := sumTo (fun k => mul (ix xs (i * ac + k)) (ix ys (k * bc + j))) ac
theorem sumTo_succ (f : Nat → Int) (n : Nat) : sumTo f (n + 1) = add (sumTo f n) (f n) := rfl
theorem cell_lt {i j R C : Nat} (hi : i < R) (hj : j < C) : i * C + j < R * C := by
 have := Nat.mul_le_mul_right C (show i + 1 ≤ R by omega)
 rw [Nat.succ_mul] at this
 omega
def Mat.fault (m : Mat) : Int := matFault m.rows m.cols m.cells
def Mat.none : Mat := ⟨0, 0, []⟩
def mx (ms : List Mat) (i : Nat) : Mat := ms[i]?.getD Mat.none
def firstFault : List Mat → Int
 | [] => 0
 | m :: r => if m.fault = 0 then firstFault r else m.fault
theorem firstFault_none {ms : List Mat} (h : ∀ j, j < ms.length → (mx ms j).fault = 0) : firstFault ms = 0 := by
 induction ms with
 | nil => rfl
 | cons m r ih =>
  have h0 : m.fault = 0 := h 0 (by simp)
  unfold firstFault
  rw [if_pos h0]
  exact ih fun j hj => h (j + 1) (by simpa using hj)
theorem firstFault_at {ms : List Mat} {k : Nat} (hk : k < ms.length) (h : ∀ j, j < k → (mx ms j).fault = 0) (hne : (mx ms k).fault ≠ 0) : firstFault ms = (mx ms k).fault := by
 induction ms generalizing k with
 | nil => simp at hk
 | cons m r ih =>
  unfold firstFault
  cases k with
  | zero => exact if_neg hne
  | succ k =>
   have h0 : m.fault = 0 := h 0 (by omega)
   rw [if_pos h0]
   exact ih (by simpa using hk) (fun j hj => h (j + 1) (by omega)) hne
end Gal
end
section
set_option linter.unusedVariables false
set_option linter.unusedSimpArgs false
namespace Gal
theorem matFault_ok {r c : Int} {xs : List Int} (h : matFault r c xs = 0) : ∃ R C : Nat, r = R ∧ c = C ∧ R ≤ 24 ∧ C ≤ 12 ∧ xs.length = R * C ∧ inEnds xs := by
 unfold matFault at h
 by_cases h1 : r < 0 ∨ 24 < r ∨ c < 0 ∨ 12 < c
 ·rw [if_pos h1] at h; omega
 ·rw [if_neg h1] at h
  by_cases h2 : (xs.length : Int) ≠ r * c
  ·rw [if_pos h2] at h; omega
  ·rw [if_neg h2] at h
   by_cases h3 : inEnds xs
   ·obtain ⟨R, hR⟩ := Int.eq_ofNat_of_zero_le (show 0 ≤ r by omega)
    obtain ⟨C, hC⟩ := Int.eq_ofNat_of_zero_le (show 0 ≤ c by omega)
    refine ⟨R, C, hR, hC, by omega, by omega, ?_, h3⟩
    have h4 : (xs.length : Int) = r * c := Decidable.not_not.1 h2
    rw [hR, hC, ← Int.natCast_mul] at h4
    omega
   ·rw [if_neg h3] at h; omega
theorem matFault_zero {R C : Nat} {xs : List Int} (hR : R ≤ 24) (hC : C ≤ 12) (hl : xs.length = R * C) (he : inEnds xs) : matFault R C xs = 0 := by
 unfold matFault
 rw [if_neg (by omega), if_neg (by rw [hl]; simp), if_pos he]
def mulFault (a b : Mat) : Int := if firstFault [a, b] = 0 then (if a.cols = b.rows then 0 else 2) else firstFault [a, b]
def matMul (a b : Mat) : Mat := ⟨a.rows, b.cols, grid (mulCell a.cells b.cells a.cols.toNat b.cols.toNat) b.cols.toNat a.rows.toNat⟩
theorem firstFault_two {a b : Mat} : firstFault [a, b] = 0 ↔ a.fault = 0 ∧ b.fault = 0 := by
 unfold firstFault firstFault firstFault
 by_cases h : a.fault = 0 <;> by_cases h' : b.fault = 0 <;> simp [h, h']
theorem mulFault_ok {a b : Mat} (h : mulFault a b = 0) : firstFault [a, b] = 0 ∧ a.cols = b.rows := by
 unfold mulFault at h
 by_cases h1 : firstFault [a, b] = 0
 ·rw [if_pos h1] at h
  by_cases h2 : a.cols = b.rows
  ·exact ⟨h1, h2⟩
  ·rw [if_neg h2] at h; omega
 ·rw [if_neg h1] at h; exact absurd h h1
def turnFault (a : Mat) : Int := if a.fault = 0 then (if 12 < a.rows then 1 else 0) else a.fault
def matTurn (a : Mat) : Mat := ⟨a.cols, a.rows, grid (fun i j => ix a.cells (j * a.cols.toNat + i)) a.rows.toNat a.cols.toNat⟩
theorem turnFault_ok {a : Mat} (h : turnFault a = 0) : a.fault = 0 ∧ a.rows ≤ 12 := by
 unfold turnFault at h
 by_cases h1 : a.fault = 0
 ·rw [if_pos h1] at h
  by_cases h2 : 12 < a.rows
  ·rw [if_pos h2] at h; omega
  ·exact ⟨h1, by omega⟩
 ·rw [if_neg h1] at h; exact absurd h h1
def piece (xs : List Int) (lo hi : Nat) : List Int := (xs.take hi).drop lo
theorem piece_length {xs : List Int} {lo hi : Nat} (h : hi ≤ xs.length) : (piece xs lo hi).length = hi - lo := by unfold piece; simp; omega
theorem piece_ix {xs : List Int} {lo hi i : Nat} (h : i < hi - lo) : ix (piece xs lo hi) i = ix xs (lo + i) := by
 unfold piece ix; rw [List.getElem?_drop, List.getElem?_take_of_lt (by omega)]
def rowsFault (a : Mat) (lo hi : Int) : Int := if a.fault = 0 then (if lo < 0 ∨ hi < lo ∨ a.rows < hi then 1 else 0) else a.fault
def matRows (a : Mat) (lo hi : Int) : Mat := ⟨hi - lo, a.cols, piece a.cells (lo.toNat * a.cols.toNat) (hi.toNat * a.cols.toNat)⟩
theorem rowsFault_ok {a : Mat} {lo hi : Int} (h : rowsFault a lo hi = 0) : a.fault = 0 ∧ 0 ≤ lo ∧ lo ≤ hi ∧ hi ≤ a.rows := by
 unfold rowsFault at h
 by_cases h1 : a.fault = 0
 ·rw [if_pos h1] at h
  by_cases h2 : lo < 0 ∨ hi < lo ∨ a.rows < hi
  ·rw [if_pos h2] at h; omega
  ·exact ⟨h1, by omega⟩
 ·rw [if_neg h1] at h; exact absurd h h1
theorem mulFault_zero {a b : Mat} (ha : a.fault = 0) (hb : b.fault = 0) (h : a.cols = b.rows) : mulFault a b = 0 := by
 unfold mulFault
 rw [if_pos (firstFault_two.2 ⟨ha, hb⟩), if_pos h]
theorem turnFault_zero {a : Mat} (ha : a.fault = 0) (h : a.rows ≤ 12) : turnFault a = 0 := by
 unfold turnFault
 rw [if_pos ha, if_neg (by omega)]
end Gal
end
section
set_option linter.unusedVariables false
set_option linter.unusedSimpArgs false
namespace Gal
theorem eq_of_ix {xs ys : List Int} (hl : xs.length = ys.length) (h : ∀ j, j < xs.length → ix xs j = ix ys j) : xs = ys := by
 apply List.ext_getElem hl
 intro i h1 h2
 have := h i h1
 unfold ix at this
 rw [List.getElem?_eq_getElem h1, List.getElem?_eq_getElem h2] at this
 simpa using this
theorem ix_set {xs : List Int} {i j : Nat} {v : Int} (hi : i < xs.length) : ix (xs.set i v) j = if i = j then v else ix xs j := by
 unfold ix
 rw [List.getElem?_set]
 by_cases h : i = j
 ·subst h; simp [hi]
 ·simp [h]
theorem row_col {k C R : Nat} (h : k < R * C) : ∃ i j, i < R ∧ j < C ∧ k = i * C + j := by
 have hC : 0 < C := by
  rcases Nat.eq_zero_or_pos C with h0 | h0
  ·subst h0; simp at h
  ·exact h0
 refine ⟨k / C, k % C, ?_, Nat.mod_lt _ hC, ?_⟩
 ·exact (Nat.div_lt_iff_lt_mul hC).2 h
 ·have := Nat.div_add_mod k C; rw [Nat.mul_comm] at this; exact this.symm
theorem eq_grid {xs : List Int} {g : Nat → Nat → Int} {R C : Nat} (hl : xs.length = R * C) (h : ∀ i j, i < R → j < C → ix xs (i * C + j) = g i j) : xs = grid g C R := by
 refine eq_of_ix (by rw [hl, grid_length]) fun k hk => ?_
 obtain ⟨i, j, hi, hj, rfl⟩ := row_col (by rw [← hl]; exact hk)
 rw [h i j hi hj, grid_ix g C R i j hi hj]
theorem grid_congr {g g' : Nat → Nat → Int} {R C : Nat} (h : ∀ i j, i < R → j < C → g i j = g' i j) : grid g C R = grid g' C R :=
 eq_grid (grid_length _ _ _) fun i j hi hj => by rw [grid_ix g C R i j hi hj, h i j hi hj]
def zeros (n : Nat) : List Int := List.replicate n 0
theorem zeros_length (n : Nat) : (zeros n).length = n := List.length_replicate
theorem zeros_ix (n k : Nat) : ix (zeros n) k = 0 := by unfold ix zeros; by_cases h : k < n <;> simp [h]
theorem mul_one (x : Int) : mul x 256 = clamp x := by
 unfold mul
 have h1 := clamp_lo x
 have h2 := clamp_hi x
 rw [clamp_id (x := 256) (by omega) (by omega), Int.mul_ediv_cancel _ (by omega), clamp_clamp]
theorem mul_zero (x : Int) : mul x 0 = 0 := by
 unfold mul
 rw [clamp_id (x := 0) (by omega) (by omega), Int.mul_zero]
 rfl
theorem add_zero (x : Int) : add x 0 = clamp x := by
 unfold add
 rw [clamp_id (x := 0) (by omega) (by omega), Int.add_zero, clamp_clamp]
theorem zero_add (x : Int) : add 0 x = clamp x := by
 unfold add
 rw [clamp_id (x := 0) (by omega) (by omega), Int.zero_add, clamp_clamp]
end Gal
end
section
set_option linter.unusedVariables false
set_option linter.unusedSimpArgs false
namespace Gal
theorem mul_comm (a b : Int) : mul a b = mul b a := by unfold mul; rw [Int.mul_comm]
theorem add_clamp (a b : Int) : clamp (add a b) = add a b := clamp_clamp _
theorem sumTo_clamp (f : Nat → Int) : ∀ n, clamp (sumTo f n) = sumTo f n
 | 0 => rfl
 | n + 1 => by rw [sumTo_succ]; exact add_clamp _ _
theorem sumTo_congr {f g : Nat → Int} : ∀ {n : Nat}, (∀ k, k < n → f k = g k) → sumTo f n = sumTo g n
 | 0, _ => rfl
 | n + 1, h => by rw [sumTo_succ, sumTo_succ, sumTo_congr (fun k hk => h k (by omega)), h n (by omega)]
theorem grid_inEnds {g : Nat → Nat → Int} {R C : Nat} (h : ∀ i j, i < R → j < C → clamp (g i j) = g i j) : inEnds (grid g C R) := by
 intro k hk
 rw [grid_length] at hk
 obtain ⟨i, j, hi, hj, rfl⟩ := row_col hk
 rw [grid_ix g C R i j hi hj]
 exact h i j hi hj
theorem matMul_fault {R K C : Nat} {xs ys : List Int} (hR : R ≤ 24) (hC : C ≤ 12) : (matMul ⟨R, K, xs⟩ ⟨K, C, ys⟩).fault = 0 :=
 matFault_zero hR hC (grid_length _ _ _) (grid_inEnds fun _ _ _ _ => sumTo_clamp _ _)
theorem turn_fault {R K : Nat} {xs : List Int} (hR : R ≤ 12) (hK : K ≤ 12) (hl : xs.length = R * K) (he : inEnds xs) : (matTurn ⟨R, K, xs⟩).fault = 0 :=
 matFault_zero (by omega) hR (grid_length _ _ _) (grid_inEnds fun i j hi hj => he _ (by rw [hl]; exact cell_lt hj hi))
end Gal
end
section
set_option linter.unusedVariables false
set_option linter.unusedSimpArgs false
namespace Gal
def cellsTo (ms : List Mat) : Nat → List Int
 | 0 => []
 | k + 1 => cellsTo ms k ++ (mx ms k).cells
def rowsTo (ms : List Mat) : Nat → Int
 | 0 => 0
 | k + 1 => rowsTo ms k + (mx ms k).rows
theorem fault_bd {m : Mat} (h : m.fault = 0) : 0 ≤ m.rows ∧ m.rows ≤ 24 ∧ m.cells.length ≤ 288 := by
 obtain ⟨R, C, h1, h2, h3, h4, h5, _⟩ := matFault_ok h
 have := Nat.mul_le_mul h3 h4
 exact ⟨by omega, by omega, by omega⟩
def sameCols (ms : List Mat) : Prop := ∀ j, j < ms.length → (mx ms j).cols = (mx ms 0).cols
instance (ms : List Mat) : Decidable (sameCols ms) := by unfold sameCols; exact inferInstance
def stackFault (ms : List Mat) : Int :=
 if firstFault ms ≠ 0 then firstFault ms else if ms.length = 0 then 2 else if ¬ sameCols ms then 2 else if 24 < rowsTo ms ms.length then 3 else 0
def matStack (ms : List Mat) : Mat := ⟨rowsTo ms ms.length, (mx ms 0).cols, cellsTo ms ms.length⟩
end Gal
end
section
set_option linter.unusedVariables false
set_option linter.unusedSimpArgs false
set_option linter.unusedSectionVars false
namespace Gal
theorem ix_take {xs : List Int} {n i : Nat} (h : i < n) : ix (xs.take n) i = ix xs i := by unfold ix; rw [List.getElem?_take_of_lt h]
theorem ix_drop {xs : List Int} {n i : Nat} : ix (xs.drop n) i = ix xs (n + i) := by unfold ix; rw [List.getElem?_drop]
theorem inEnds_take {xs : List Int} (h : inEnds xs) (n : Nat) : inEnds (xs.take n) := by
 intro j hj
 rw [List.length_take] at hj
 rw [ix_take (by omega)]
 exact h j (by omega)
theorem inEnds_drop {xs : List Int} (h : inEnds xs) (n : Nat) : inEnds (xs.drop n) := by
 intro j hj
 rw [List.length_drop] at hj
 rw [ix_drop]
 exact h _ (by omega)
def topOf (R K : Nat) (xs : List Int) (k : Nat) : Mat := ⟨k, K, xs.take (k * K)⟩
def botOf (R K : Nat) (xs : List Int) (k : Nat) : Mat := ⟨(R - k : Nat), K, xs.drop (k * K)⟩
section
variable {R K k : Nat} {xs : List Int} (hk : k ≤ R) (hl : xs.length = R * K)
include hk hl
theorem kK : k * K ≤ R * K := Nat.mul_le_mul_right K hk
theorem rows_top : matRows ⟨R, K, xs⟩ 0 k = topOf R K xs k := by
 unfold matRows topOf piece
 simp
theorem top_fault (hR : R ≤ 24) (hK : K ≤ 12) (he : inEnds xs) : (topOf R K xs k).fault = 0 := by
 have := kK hk hl
 exact matFault_zero (by omega) hK (by show (xs.take (k * K)).length = _; rw [List.length_take]; omega) (inEnds_take he _)
theorem bot_fault (hR : R ≤ 24) (hK : K ≤ 12) (he : inEnds xs) : (botOf R K xs k).fault = 0 := by
 have := kK hk hl
 exact matFault_zero (by omega) hK (by show (xs.drop (k * K)).length = _; rw [List.length_drop, Nat.sub_mul]; omega) (inEnds_drop he _)
theorem stack_two {a b : Mat} (ha : a.fault = 0) (hb : b.fault = 0) (hc : a.cols = b.cols) (hr : a.rows + b.rows ≤ 24) : stackFault [a, b] = 0 := by
 have h1 : firstFault [a, b] = 0 := firstFault_two.2 ⟨ha, hb⟩
 unfold stackFault
 rw [if_neg (by rw [h1]; omega), if_neg (by simp), if_neg, if_neg]
 ·show ¬ 24 < 0 + a.rows + b.rows
  omega
 ·intro h
  apply h
  intro j hj
  rcases (by simp at hj; omega : j = 0 ∨ j = 1) with rfl | rfl
  ·rfl
  ·exact hc.symm
theorem stack_is {a b : Mat} : matStack [a, b] = ⟨a.rows + b.rows, a.cols, a.cells ++ b.cells⟩ := by
 show (⟨0 + a.rows + b.rows, a.cols, [] ++ a.cells ++ b.cells⟩ : Mat) = _
 rw [Int.zero_add, List.nil_append]
theorem grid_split (g : Nat → Nat → Int) (C r : Nat) : grid g C (k + r) = grid g C k ++ grid (fun i => g (k + i)) C r := by
 induction r with
 | zero => simp [grid]
 | succ r ih => rw [← Nat.add_assoc, ← gridTo_row, ← gridTo_row]; unfold gridTo; rw [ih, List.append_assoc]
theorem mul_parts {C : Nat} {ys : List Int} : matStack [matMul (topOf R K xs k) ⟨K, C, ys⟩, matMul (botOf R K xs k) ⟨K, C, ys⟩] = matMul ⟨R, K, xs⟩ ⟨K, C, ys⟩ := by
 rw [stack_is hk hl]
 unfold matMul topOf botOf
 simp only [Int.toNat_natCast]
 have h1 : grid (mulCell (xs.take (k * K)) ys K C) C k = grid (mulCell xs ys K C) C k := grid_congr fun i j hi hj => by
  unfold mulCell
  exact sumTo_congr fun t ht => by rw [ix_take (cell_lt hi ht)]
 have h2 : grid (mulCell (xs.drop (k * K)) ys K C) C (R - k) = grid (fun i => mulCell xs ys K C (k + i)) C (R - k) := grid_congr fun i j hi hj => by
  unfold mulCell
  exact sumTo_congr fun t ht => by rw [ix_drop, Nat.add_mul, Nat.add_assoc]
 rw [h1, h2, ← grid_split hk hl, show k + (R - k) = R by omega]
 congr 1
 omega
end
end Gal
end
section
set_option linter.unusedVariables false
set_option linter.unusedSimpArgs false
namespace Gal
def upto (f : Nat → Int) (k : Nat) : List Int := (List.range k).map f
theorem upto_succ (f : Nat → Int) (k : Nat) : upto f (k + 1) = upto f k ++ [f k] := by simp [upto, List.range_succ]
theorem upto_length (f : Nat → Int) (k : Nat) : (upto f k).length = k := by simp [upto]
theorem upto_ix {f : Nat → Int} {k i : Nat} (h : i < k) : ix (upto f k) i = f i := by simp [ix, upto, h]
def offs (xs ys : List Int) (n : Nat) : List Int := upto (fun k => sub (ix xs k) (ix ys k)) n
def sqSum (l : List Int) : Int := l.foldl (fun s d => add s (mul d d)) 0
theorem sqSum_snoc (l : List Int) (d : Int) : sqSum (l ++ [d]) = add (sqSum l) (mul d d) := by simp [sqSum]
def lossFault (a b : Mat) : Int := if firstFault [a, b] = 0 then (if a.rows = b.rows ∧ a.cols = b.cols then 0 else 2) else firstFault [a, b]
def lossOf (a b : Mat) : Int := mul (sqSum (offs a.cells b.cells a.cells.length)) 128
def lossBack (a b : Mat) : Mat := ⟨a.rows, a.cols, offs a.cells b.cells a.cells.length⟩
theorem lossFault_ok {a b : Mat} (h : lossFault a b = 0) : a.fault = 0 ∧ b.fault = 0 ∧ a.rows = b.rows ∧ a.cols = b.cols := by
 unfold lossFault at h
 by_cases h1 : firstFault [a, b] = 0
 ·rw [if_pos h1] at h
  obtain ⟨h2, h3⟩ := firstFault_two.1 h1
  by_cases h4 : a.rows = b.rows ∧ a.cols = b.cols
  ·exact ⟨h2, h3, h4.1, h4.2⟩
  ·rw [if_neg h4] at h; omega
 ·rw [if_neg h1] at h; exact absurd h h1
theorem lossFault_zero {a b : Mat} (ha : a.fault = 0) (hb : b.fault = 0) (hr : a.rows = b.rows) (hc : a.cols = b.cols) : lossFault a b = 0 := by
 unfold lossFault
 rw [if_pos (firstFault_two.2 ⟨ha, hb⟩), if_pos ⟨hr, hc⟩]
end Gal
end
section
set_option linter.unusedVariables false
set_option linter.unusedSimpArgs false
namespace Gal
theorem sub_self (x : Int) : sub x x = 0 := by unfold sub; rw [Int.sub_self]; rfl
end Gal
end
section
set_option linter.unusedVariables false
set_option linter.unusedSimpArgs false
namespace Gal
def pad (g : Nat → Int) (n k : Nat) : List Int := upto (fun i => if i < k then g i else 0) n
theorem pad_length (g : Nat → Int) (n k : Nat) : (pad g n k).length = n := upto_length _ _
theorem pad_zero (g : Nat → Int) (n : Nat) : pad g n 0 = zeros n := by
 refine eq_of_ix (by rw [pad_length, zeros_length]) fun j hj => ?_
 rw [pad_length] at hj
 rw [zeros_ix]
 unfold pad
 rw [upto_ix hj, if_neg (Nat.not_lt_zero _)]
theorem pad_full (g : Nat → Int) (n : Nat) : pad g n n = upto g n := by
 refine eq_of_ix (by rw [pad_length, upto_length]) fun j hj => ?_
 rw [pad_length] at hj
 unfold pad
 rw [upto_ix hj, upto_ix hj, if_pos hj]
theorem pad_ix {g : Nat → Int} {n k j : Nat} (hj : j < n) : ix (pad g n k) j = if j < k then g j else 0 := by unfold pad; rw [upto_ix hj]
theorem pad_set {g : Nat → Int} {n k : Nat} (hk : k < n) : (pad g n k).set k (g k) = pad g n (k + 1) := by
 refine eq_of_ix (by rw [List.length_set, pad_length, pad_length]) fun j hj => ?_
 rw [List.length_set, pad_length] at hj
 rw [ix_set (by rw [pad_length]; exact hk), pad_ix hj, pad_ix hj]
 by_cases h : k = j
 ·subst h; rw [if_pos rfl, if_pos (by omega)]
 ·rw [if_neg h]
  by_cases h2 : j < k
  ·rw [if_pos h2, if_pos (by omega)]
  ·rw [if_neg h2, if_neg (by omega)]
theorem upto_congr {f g : Nat → Int} {n : Nat} (h : ∀ k, k < n → f k = g k) : upto f n = upto g n := by
 refine eq_of_ix (by rw [upto_length, upto_length]) fun j hj => ?_
 rw [upto_length] at hj
 rw [upto_ix hj, upto_ix hj, h j hj]
theorem upto_self {xs : List Int} : upto (ix xs) xs.length = xs := by
 refine eq_of_ix (upto_length _ _) fun j hj => ?_
 rw [upto_length] at hj
 rw [upto_ix hj]
end Gal
end
section
set_option linter.unusedVariables false
set_option linter.unusedSimpArgs false
namespace Gal
theorem place_div {i j C : Nat} (hj : j < C) : (i * C + j) / C = i := by
 rw [Nat.mul_comm, Nat.mul_add_div (by omega), Nat.div_eq_of_lt hj, Nat.add_zero]
theorem place_mod {i j C : Nat} (hj : j < C) : (i * C + j) % C = j := by
 rw [Nat.mul_comm, Nat.mul_add_mod, Nat.mod_eq_of_lt hj]
theorem grid_upto (g : Nat → Nat → Int) (R C : Nat) : grid g C R = upto (fun p => g (p / C) (p % C)) (R * C) := by
 symm
 refine eq_grid (upto_length _ _) fun i j hi hj => ?_
 rw [upto_ix (cell_lt hi hj), place_div hj, place_mod hj]
theorem place_is (p C : Nat) : p / C * C + p % C = p := by rw [Nat.mul_comm]; exact Nat.div_add_mod p C
def matSums (a : Mat) : Mat := ⟨1, a.cols, grid (fun _ j => sumTo (fun i => ix a.cells (i * a.cols.toNat + j)) a.rows.toNat) a.cols.toNat 1⟩
theorem rows_upto {R K L H : Nat} {xs : List Int} (hLH : L ≤ H) (hHR : H ≤ R) (hl : xs.length = R * K) : matRows ⟨R, K, xs⟩ L H = ⟨(H - L : Nat), K, upto (fun k => ix xs (L * K + k)) ((H - L) * K)⟩ := by
 unfold matRows
 simp only [Int.toNat_natCast]
 have e : (H : Int) - L = ((H - L : Nat) : Int) := by omega
 rw [e]
 congr 1
 have h1 : H * K ≤ R * K := Nat.mul_le_mul_right K hHR
 have h2 : (H - L) * K = H * K - L * K := Nat.sub_mul _ _ _
 refine eq_of_ix (by rw [piece_length (by omega), upto_length, h2]) fun j hj => ?_
 rw [piece_length (by omega)] at hj
 rw [piece_ix hj, upto_ix (by omega)]
def matAdd (a b : Mat) : Mat := ⟨a.rows, a.cols, upto (fun k => add (ix a.cells k) (ix b.cells k)) a.cells.length⟩
end Gal
end
section
set_option linter.unusedVariables false
set_option linter.unusedSimpArgs false
namespace Gal
structure Lay where
 kind : Int
 W : Mat
 B : Mat
def Mat.empty (m : Mat) : Prop := m.rows = 0 ∧ m.cols = 0
instance (m : Mat) : Decidable m.empty := by unfold Mat.empty; exact inferInstance
def Lay.fits (l : Lay) : Prop :=
 (l.kind = 1 ∧ 0 < l.W.rows ∧ 0 < l.W.cols ∧ l.W.rows ≤ 12 ∧ l.B.rows = 1 ∧ l.B.cols = l.W.cols) ∨
 (l.kind = 2 ∧ l.W.empty ∧ l.B.empty) ∨
 (l.kind = 3 ∧ l.W.rows = 1 ∧ l.W.cols = 1 ∧ l.B.empty) ∨
 (l.kind = 4 ∧ l.W.empty ∧ l.B.rows = 1 ∧ 0 < l.B.cols)
instance (l : Lay) : Decidable l.fits := by unfold Lay.fits; exact inferInstance
def Lay.fault (l : Lay) : Int :=
 if l.kind < 1 ∨ 4 < l.kind then 1 else if l.W.fault ≠ 0 then l.W.fault else if l.B.fault ≠ 0 then l.B.fault else if l.fits then 0 else 2
theorem Lay.fault_ok {l : Lay} (h : l.fault = 0) : 1 ≤ l.kind ∧ l.kind ≤ 4 ∧ l.W.fault = 0 ∧ l.B.fault = 0 ∧ l.fits := by
 unfold Lay.fault at h
 by_cases h1 : l.kind < 1 ∨ 4 < l.kind
 ·rw [if_pos h1] at h; omega
 ·rw [if_neg h1] at h
  by_cases h2 : l.W.fault = 0
  ·rw [if_neg (by simp [h2])] at h
   by_cases h3 : l.B.fault = 0
   ·rw [if_neg (by simp [h3])] at h
    by_cases h4 : l.fits
    ·exact ⟨by omega, by omega, h2, h3, h4⟩
    ·rw [if_neg h4] at h; omega
   ·rw [if_pos h3] at h; exact absurd h h3
  ·rw [if_pos h2] at h; exact absurd h h2
def Lay.takes (l : Lay) (n : Int) : Prop := (l.kind = 1 → n = l.W.rows) ∧ (l.kind = 4 → n = l.B.cols)
instance (l : Lay) (n : Int) : Decidable (l.takes n) := by unfold Lay.takes; exact inferInstance
def Lay.wide (l : Lay) (n : Int) : Int := if l.kind = 1 then l.W.cols else n
def Lay.wideFault (l : Lay) (n : Int) : Int := if l.fault ≠ 0 then l.fault else if n < 0 ∨ 12 < n then 1 else if l.takes n then 0 else 2
def Lay.goFault (l : Lay) (x : Mat) : Int := if l.fault ≠ 0 then l.fault else if x.fault ≠ 0 then x.fault else if l.takes x.cols then 0 else 2
def moreCells (xs row : List Int) (K : Nat) : List Int := upto (fun k => add (ix xs k) (ix row (k % K))) xs.length
def Lay.go (l : Lay) (x : Mat) : Mat :=
 if l.kind = 1 then ⟨x.rows, l.W.cols, moreCells (matMul x l.W).cells l.B.cells l.W.cols.toNat⟩
 else if l.kind = 2 then ⟨x.rows, x.cols, upto (fun k => max (ix x.cells k) 0) x.cells.length⟩
 else if l.kind = 3 then ⟨x.rows, x.cols, upto (fun k => mul (ix x.cells k) (ix l.W.cells 0)) x.cells.length⟩
 else ⟨x.rows, x.cols, moreCells x.cells l.B.cells x.cols.toNat⟩
def Lay.backFault (l : Lay) (x g : Mat) : Int :=
 if l.goFault x ≠ 0 then l.goFault x else if g.fault ≠ 0 then g.fault else if g.rows ≠ x.rows ∨ g.cols ≠ l.wide x.cols then 2 else if l.kind = 1 ∧ 12 < x.rows then 1 else 0
structure Grd where
 W : Mat
 B : Mat
def Grd.none : Grd := ⟨Mat.none, Mat.none⟩
def dotTo (xs gs : List Int) : Nat → Int := sumTo fun k => mul (ix xs k) (ix gs k)
def Lay.back (l : Lay) (x g : Mat) : Mat :=
 if l.kind = 1 then matMul g (matTurn l.W)
 else if l.kind = 2 then ⟨x.rows, x.cols, upto (fun k => if 0 < ix x.cells k then ix g.cells k else 0) x.cells.length⟩
 else if l.kind = 3 then ⟨g.rows, g.cols, upto (fun k => mul (ix g.cells k) (ix l.W.cells 0)) g.cells.length⟩
 else ⟨g.rows, g.cols, upto (ix g.cells) g.cells.length⟩
def Lay.grad (l : Lay) (x g : Mat) : Grd :=
 if l.kind = 1 then ⟨matMul (matTurn x) g, matSums g⟩
 else if l.kind = 2 then Grd.none
 else if l.kind = 3 then ⟨⟨1, 1, [dotTo x.cells g.cells x.cells.length]⟩, Mat.none⟩
 else ⟨Mat.none, matSums g⟩
theorem Lay.wideFault_ok {l : Lay} {n : Int} (h : l.wideFault n = 0) : l.fault = 0 ∧ 0 ≤ n ∧ n ≤ 12 ∧ l.takes n := by
 unfold Lay.wideFault at h
 by_cases h1 : l.fault = 0
 ·rw [if_neg (by simp [h1])] at h
  by_cases h2 : n < 0 ∨ 12 < n
  ·rw [if_pos h2] at h; omega
  ·rw [if_neg h2] at h
   by_cases h3 : l.takes n
   ·exact ⟨h1, by omega, by omega, h3⟩
   ·rw [if_neg h3] at h; omega
 ·rw [if_pos h1] at h; exact absurd h h1
theorem Lay.goFault_ok {l : Lay} {x : Mat} (h : l.goFault x = 0) : l.fault = 0 ∧ x.fault = 0 ∧ l.takes x.cols := by
 unfold Lay.goFault at h
 by_cases h1 : l.fault = 0
 ·rw [if_neg (by simp [h1])] at h
  by_cases h2 : x.fault = 0
  ·rw [if_neg (by simp [h2])] at h
   by_cases h3 : l.takes x.cols
   ·exact ⟨h1, h2, h3⟩
   ·rw [if_neg h3] at h; omega
  ·rw [if_pos h2] at h; exact absurd h h2
 ·rw [if_pos h1] at h; exact absurd h h1
theorem Lay.backFault_ok {l : Lay} {x g : Mat} (h : l.backFault x g = 0) : l.goFault x = 0 ∧ g.fault = 0 ∧ g.rows = x.rows ∧ g.cols = l.wide x.cols ∧ (l.kind = 1 → x.rows ≤ 12) := by
 unfold Lay.backFault at h
 by_cases h1 : l.goFault x = 0
 ·rw [if_neg (by simp [h1])] at h
  by_cases h2 : g.fault = 0
  ·rw [if_neg (by simp [h2])] at h
   by_cases h3 : g.rows ≠ x.rows ∨ g.cols ≠ l.wide x.cols
   ·rw [if_pos h3] at h; omega
   ·rw [if_neg h3] at h
    by_cases h4 : l.kind = 1 ∧ 12 < x.rows
    ·rw [if_pos h4] at h; omega
    ·refine ⟨h1, h2, ?_, ?_, fun hk => ?_⟩ <;> omega
  ·rw [if_pos h2] at h; exact absurd h h2
 ·rw [if_pos h1] at h; exact absurd h h1
theorem Lay.goFault_wide {l : Lay} {x : Mat} (hx : x.fault = 0) : l.goFault x = l.wideFault x.cols := by
 obtain ⟨R, K, _, eK, _, hK, _, _⟩ := matFault_ok hx
 unfold Lay.goFault Lay.wideFault
 by_cases h1 : l.fault = 0
 ·have n1 : ¬ l.fault ≠ 0 := fun h => h h1
  have n2 : ¬ x.fault ≠ 0 := fun h => h hx
  have n3 : ¬ (x.cols < 0 ∨ 12 < x.cols) := by omega
  simp only [if_neg n1, if_neg n2, if_neg n3]
 ·simp only [if_pos h1]
def okOr (f x : Int) : Int := if f = 0 then x else 0
theorem okOr_ok {f x : Int} (h : f = 0) : okOr f x = x := if_pos h
theorem okOr_bad {f x : Int} (h : f ≠ 0) : okOr f x = 0 := if_neg h
theorem moreCells_length (xs row : List Int) (K : Nat) : (moreCells xs row K).length = xs.length := upto_length _ _
end Gal
end
section
set_option linter.unusedVariables false
set_option linter.unusedSimpArgs false
namespace Gal
theorem swap_add (a b : Int) : add a b = add b a := by unfold add; rw [Int.add_comm]
theorem nought_add (a : Int) : add a 0 = clamp a := by
 unfold add
 have h : clamp 0 = 0 := by decide
 rw [h, Int.add_zero, clamp_clamp]
end Gal
end
end
