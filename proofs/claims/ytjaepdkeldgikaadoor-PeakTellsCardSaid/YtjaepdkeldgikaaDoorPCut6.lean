/- Plain: the first end that does, as a search by counting up finds it. No program in sight. -/
import Derived.Test.YtjaepdkeldgikaaDoorPCut5
set_option linter.unusedVariables false
set_option linter.unusedSimpArgs false
namespace Gal
/-- may a part that begins at k have j + 1 layers, where s parts are to follow? -/
def picksOk (c : Nat → Int) (n : Nat) (L : Int) (s k j : Nat) : Prop := sg c k (j + 1) ≤ L ∧ tl c n L (n - (k + 1 + j)) ≤ s ∧ s ≤ n - (k + 1 + j)
section
variable {c : Nat → Int} {n : Nat} {L : Int}
theorem tl_pos {d : Nat} (h : d ≠ 0) : 1 ≤ tl c n L d := by
  by_cases hg : gl c n L (n - d) = 0
  · rw [tl_none h hg]; omega
  · rw [tl_some h hg]; omega
theorem pick_some (hc : ∀ i, 0 ≤ c i) (hL : 0 ≤ L) {s k : Nat} (h : Fits c n L (s + 1) k) :
    ∃ j, picks c n L (s + 1) k = (k + 1 + j) :: picks c n L s (k + 1 + j) ∧ k + 1 + j ≤ n ∧ Fits c n L s (k + 1 + j) ∧ picksOk c n L s k j ∧ ∀ i, i < j → ¬ picksOk c n L s k i := by
  have hsome : pickAt c n L s k ≠ none := fun h0 => by
    obtain ⟨d, d1, d2, d3, d4⟩ := h
    have h1 := List.find?_eq_none.1 h0 (d - 1) (List.mem_range.2 (by omega))
    simp only [decide_eq_true_eq] at h1
    have hfit := fits_iff (c := c) (n := n) (L := L) hc hL (d := n - (k + 1 + (d - 1))) (s := s) (by omega)
    rw [show n - (n - (k + 1 + (d - 1))) = k + d by omega] at hfit
    refine h1 ⟨?_, hfit.1 d4⟩
    rw [show d - 1 + 1 = d by omega]
    exact d3
  cases hp : pickAt c n L s k with
  | none => exact absurd hp hsome
  | some j =>
    have hp' := hp
    unfold pickAt at hp'
    obtain ⟨h1, h2, h3⟩ := List.find?_range_eq_some.1 hp'
    simp only [decide_eq_true_eq] at h1
    have hj := List.mem_range.1 h2
    refine ⟨j, by rw [picks_succ, hp], by omega, ?_, h1, fun i hi h4 => ?_⟩
    · have hfit := fits_iff (c := c) (n := n) (L := L) hc hL (d := n - (k + 1 + j)) (s := s) (by omega)
      rw [show n - (n - (k + 1 + j)) = k + 1 + j by omega] at hfit
      exact hfit.2 h1.2
    · have h5 := h3 i hi
      simp only [Bool.not_eq_true', decide_eq_false_iff_not] at h5
      exact h5 h4
/-- as the program asks: no part is to follow -/
theorem picks_last {k j : Nat} (hk : k + 1 + j ≤ n) : picksOk c n L 0 k j ↔ sg c k (j + 1) ≤ L ∧ k + 1 + j = n := by
  unfold picksOk
  constructor
  · intro ⟨h1, h2, _⟩
    refine ⟨h1, ?_⟩
    by_cases h : n - (k + 1 + j) = 0
    · omega
    · have := tl_pos (c := c) (n := n) (L := L) h
      omega
  · intro ⟨h1, h2⟩
    rw [h2, Nat.sub_self, tl_zero]
    exact ⟨h1, Nat.le_refl _, Nat.le_refl _⟩
end
end Gal
