/- Plain matrices: products and turns. No program in sight. -/
import Derived.Test.YtopckalgpeapnaaDoorPMat
set_option linter.unusedVariables false
set_option linter.unusedSimpArgs false
namespace Gal

theorem matFault_ok {r c : Int} {xs : List Int} (h : matFault r c xs = 0) : ∃ R C : Nat, r = R ∧ c = C ∧ R ≤ 24 ∧ C ≤ 12 ∧ xs.length = R * C ∧ inEnds xs := by
  unfold matFault at h
  by_cases h1 : r < 0 ∨ 24 < r ∨ c < 0 ∨ 12 < c
  · rw [if_pos h1] at h; omega
  · rw [if_neg h1] at h
    by_cases h2 : (xs.length : Int) ≠ r * c
    · rw [if_pos h2] at h; omega
    · rw [if_neg h2] at h
      by_cases h3 : inEnds xs
      · obtain ⟨R, hR⟩ := Int.eq_ofNat_of_zero_le (show 0 ≤ r by omega)
        obtain ⟨C, hC⟩ := Int.eq_ofNat_of_zero_le (show 0 ≤ c by omega)
        refine ⟨R, C, hR, hC, by omega, by omega, ?_, h3⟩
        have h4 : (xs.length : Int) = r * c := Decidable.not_not.1 h2
        rw [hR, hC, ← Int.natCast_mul] at h4
        omega
      · rw [if_neg h3] at h; omega
theorem matFault_zero {R C : Nat} {xs : List Int} (hR : R ≤ 24) (hC : C ≤ 12) (hl : xs.length = R * C) (he : inEnds xs) : matFault R C xs = 0 := by
  unfold matFault
  rw [if_neg (by omega), if_neg (by rw [hl]; simp), if_pos he]

def mulFault (a b : Mat) : Int := if firstFault [a, b] = 0 then (if a.cols = b.rows then 0 else 2) else firstFault [a, b]
def matMul (a b : Mat) : Mat := ⟨a.rows, b.cols, grid (mulCell a.cells b.cells a.cols.toNat b.cols.toNat) b.cols.toNat a.rows.toNat⟩
theorem firstFault_two {a b : Mat} : firstFault [a, b] = 0 ↔ a.fault = 0 ∧ b.fault = 0 := by
  unfold firstFault firstFault firstFault
  by_cases h : a.fault = 0 <;> by_cases h' : b.fault = 0 <;> simp [h, h']
theorem mulFault_ok {a b : Mat} (h : mulFault a b = 0) : firstFault [a, b] = 0 ∧ a.cols = b.rows := by
  unfold mulFault at h
  by_cases h1 : firstFault [a, b] = 0
  · rw [if_pos h1] at h
    by_cases h2 : a.cols = b.rows
    · exact ⟨h1, h2⟩
    · rw [if_neg h2] at h; omega
  · rw [if_neg h1] at h; exact absurd h h1
def turnFault (a : Mat) : Int := if a.fault = 0 then (if 12 < a.rows then 1 else 0) else a.fault
def matTurn (a : Mat) : Mat := ⟨a.cols, a.rows, grid (fun i j => ix a.cells (j * a.cols.toNat + i)) a.rows.toNat a.cols.toNat⟩
theorem turnFault_ok {a : Mat} (h : turnFault a = 0) : a.fault = 0 ∧ a.rows ≤ 12 := by
  unfold turnFault at h
  by_cases h1 : a.fault = 0
  · rw [if_pos h1] at h
    by_cases h2 : 12 < a.rows
    · rw [if_pos h2] at h; omega
    · exact ⟨h1, by omega⟩
  · rw [if_neg h1] at h; exact absurd h h1
/-- a piece of a list -/
def piece (xs : List Int) (lo hi : Nat) : List Int := (xs.take hi).drop lo
theorem piece_length {xs : List Int} {lo hi : Nat} (h : hi ≤ xs.length) : (piece xs lo hi).length = hi - lo := by unfold piece; simp; omega
theorem piece_ix {xs : List Int} {lo hi i : Nat} (h : i < hi - lo) : ix (piece xs lo hi) i = ix xs (lo + i) := by
  unfold piece ix; rw [List.getElem?_drop, List.getElem?_take_of_lt (by omega)]
def rowsFault (a : Mat) (lo hi : Int) : Int := if a.fault = 0 then (if lo < 0 ∨ hi < lo ∨ a.rows < hi then 1 else 0) else a.fault
def matRows (a : Mat) (lo hi : Int) : Mat := ⟨hi - lo, a.cols, piece a.cells (lo.toNat * a.cols.toNat) (hi.toNat * a.cols.toNat)⟩
theorem rowsFault_ok {a : Mat} {lo hi : Int} (h : rowsFault a lo hi = 0) : a.fault = 0 ∧ 0 ≤ lo ∧ lo ≤ hi ∧ hi ≤ a.rows := by
  unfold rowsFault at h
  by_cases h1 : a.fault = 0
  · rw [if_pos h1] at h
    by_cases h2 : lo < 0 ∨ hi < lo ∨ a.rows < hi
    · rw [if_pos h2] at h; omega
    · exact ⟨h1, by omega⟩
  · rw [if_neg h1] at h; exact absurd h h1
theorem mulFault_zero {a b : Mat} (ha : a.fault = 0) (hb : b.fault = 0) (h : a.cols = b.rows) : mulFault a b = 0 := by
  unfold mulFault
  rw [if_pos (firstFault_two.2 ⟨ha, hb⟩), if_pos h]
theorem turnFault_zero {a : Mat} (ha : a.fault = 0) (h : a.rows ≤ 12) : turnFault a = 0 := by
  unfold turnFault
  rw [if_pos ha, if_neg (by omega)]
end Gal
