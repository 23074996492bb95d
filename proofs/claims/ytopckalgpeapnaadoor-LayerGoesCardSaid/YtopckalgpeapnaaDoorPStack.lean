/- Plain: matrices stacked. No program in sight. -/
import Derived.Test.YtopckalgpeapnaaDoorPTurn
set_option linter.unusedVariables false
set_option linter.unusedSimpArgs false
namespace Gal

/-- the cells of the first k, one behind the other -/
def cellsTo (ms : List Mat) : Nat → List Int
  | 0 => []
  | k + 1 => cellsTo ms k ++ (mx ms k).cells
/-- their rows -/
def rowsTo (ms : List Mat) : Nat → Int
  | 0 => 0
  | k + 1 => rowsTo ms k + (mx ms k).rows
theorem cellsTo_succ (ms : List Mat) (k : Nat) : cellsTo ms (k + 1) = cellsTo ms k ++ (mx ms k).cells := rfl
theorem rowsTo_succ (ms : List Mat) (k : Nat) : rowsTo ms (k + 1) = rowsTo ms k + (mx ms k).rows := rfl
theorem fault_bd {m : Mat} (h : m.fault = 0) : 0 ≤ m.rows ∧ m.rows ≤ 24 ∧ m.cells.length ≤ 288 := by
  obtain ⟨R, C, h1, h2, h3, h4, h5, _⟩ := matFault_ok h
  have := Nat.mul_le_mul h3 h4
  exact ⟨by omega, by omega, by omega⟩
theorem to_bd {ms : List Mat} (h : firstFault ms = 0) : ∀ k, k ≤ ms.length → 0 ≤ rowsTo ms k ∧ rowsTo ms k ≤ 24 * k ∧ (cellsTo ms k).length ≤ 288 * k
  | 0, _ => by simp [rowsTo, cellsTo]
  | k + 1, hk => by
    have hm : ∀ (l : List Mat), firstFault l = 0 → ∀ j, j < l.length → (mx l j).fault = 0 := by
      intro l
      induction l with
      | nil => intro _ j hj; simp at hj
      | cons m r ih =>
        intro h1 j hj
        unfold firstFault at h1
        by_cases h2 : m.fault = 0
        · rw [if_pos h2] at h1
          cases j with
          | zero => exact h2
          | succ j => exact ih h1 j (by simpa using hj)
        · rw [if_neg h2] at h1; exact absurd h1 h2
    obtain ⟨h1, h2, h3⟩ := fault_bd (hm ms h k (by omega))
    obtain ⟨h4, h5, h6⟩ := to_bd h k (by omega)
    rw [rowsTo_succ, cellsTo_succ, List.length_append]
    omega
theorem firstFault_all {l : List Mat} (h1 : firstFault l = 0) {j : Nat} (hj : j < l.length) : (mx l j).fault = 0 := by
  induction l generalizing j with
  | nil => simp at hj
  | cons m r ih =>
    unfold firstFault at h1
    by_cases h2 : m.fault = 0
    · rw [if_pos h2] at h1
      cases j with
      | zero => exact h2
      | succ j => exact ih h1 (by simpa using hj)
    · rw [if_neg h2] at h1; exact absurd h1 h2

/-- all have as many columns as the first one -/
def sameCols (ms : List Mat) : Prop := ∀ j, j < ms.length → (mx ms j).cols = (mx ms 0).cols
instance (ms : List Mat) : Decidable (sameCols ms) := by unfold sameCols; exact inferInstance
def stackFault (ms : List Mat) : Int :=
  if firstFault ms ≠ 0 then firstFault ms else if ms.length = 0 then 2 else if ¬ sameCols ms then 2 else if 24 < rowsTo ms ms.length then 3 else 0
def matStack (ms : List Mat) : Mat := ⟨rowsTo ms ms.length, (mx ms 0).cols, cellsTo ms ms.length⟩
theorem stackFault_ok {ms : List Mat} (h : stackFault ms = 0) : firstFault ms = 0 ∧ 0 < ms.length ∧ sameCols ms ∧ rowsTo ms ms.length ≤ 24 := by
  unfold stackFault at h
  by_cases h1 : firstFault ms = 0
  · rw [if_neg (by omega)] at h
    by_cases h2 : ms.length = 0
    · rw [if_pos h2] at h; omega
    · rw [if_neg h2] at h
      by_cases h3 : sameCols ms
      · rw [if_neg (fun x => x h3)] at h
        by_cases h4 : 24 < rowsTo ms ms.length
        · rw [if_pos h4] at h; omega
        · exact ⟨h1, by omega, h3, by omega⟩
      · rw [if_pos h3] at h; omega
  · rw [if_pos h1] at h; exact absurd h h1
end Gal
