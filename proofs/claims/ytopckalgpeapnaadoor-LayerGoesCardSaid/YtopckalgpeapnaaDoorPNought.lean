/- Plain: how far off is never below nought; the other way round it is as far, and what goes back is the opposite. No program in sight. -/
import Derived.Test.YtopckalgpeapnaaDoorPLoss
import Derived.Test.YtopckalgpeapnaaDoorPUnit
set_option linter.unusedVariables false
set_option linter.unusedSimpArgs false
namespace Gal
theorem clamp_neg (x : Int) : clamp (-x) = -clamp x := by unfold clamp; omega
theorem clamp_nn {x : Int} (h : 0 ≤ x) : 0 ≤ clamp x := by unfold clamp; omega
theorem sub_flip (x y : Int) : sub y x = -sub x y := by
  unfold sub
  rw [← clamp_neg]
  congr 1
  omega
theorem sub_self (x : Int) : sub x x = 0 := by unfold sub; rw [Int.sub_self]; rfl
theorem mul_neg_neg (d : Int) : mul (-d) (-d) = mul d d := by unfold mul; rw [clamp_neg, Int.neg_mul_neg]
theorem mul_sq_nn (d : Int) : 0 ≤ mul d d := by
  unfold mul
  apply clamp_nn
  have h : 0 ≤ clamp d * clamp d := by
    rcases Int.le_total 0 (clamp d) with h | h
    · exact Int.mul_nonneg h h
    · rw [← Int.neg_mul_neg]; exact Int.mul_nonneg (by omega) (by omega)
  omega
theorem add_nn {x y : Int} (hx : 0 ≤ x) (hy : 0 ≤ y) : 0 ≤ add x y := by
  unfold add
  have h1 := clamp_nn hx
  have h2 := clamp_nn hy
  exact clamp_nn (by omega)
theorem sqSum_nn (l : List Int) : 0 ≤ sqSum l := by
  unfold sqSum
  have : ∀ (l : List Int) (s : Int), 0 ≤ s → 0 ≤ l.foldl (fun s d => add s (mul d d)) s := by
    intro l
    induction l with
    | nil => intro s hs; exact hs
    | cons d l ih => intro s hs; exact ih _ (add_nn hs (mul_sq_nn d))
  exact this l 0 (Int.le_refl _)
theorem sqSum_neg (l : List Int) : sqSum (l.map fun d => -d) = sqSum l := by
  unfold sqSum
  rw [List.foldl_map]
  congr 1
  funext s d
  rw [mul_neg_neg]
theorem sqSum_zero (n : Nat) : sqSum (zeros n) = 0 := by
  unfold sqSum zeros
  induction n with
  | zero => rfl
  | succ n ih => rw [List.replicate_succ, List.foldl_cons]; exact ih
theorem offs_flip (xs ys : List Int) (n : Nat) : offs ys xs n = (offs xs ys n).map fun d => -d := by
  unfold offs upto
  rw [List.map_map]
  apply List.map_congr_left
  intro k _
  exact sub_flip _ _
theorem offs_self (xs : List Int) (n : Nat) : offs xs xs n = zeros n := by
  unfold offs upto zeros
  apply List.ext_getElem
  · simp
  · intro i h1 h2
    simp [sub_self]
theorem offs_ix {xs ys : List Int} {n k : Nat} (h : k < n) : ix (offs xs ys n) k = sub (ix xs k) (ix ys k) := by unfold offs; exact upto_ix h
theorem offs_length (xs ys : List Int) (n : Nat) : (offs xs ys n).length = n := upto_length _ _
theorem lossOf_nn (a b : Mat) : 0 ≤ lossOf a b := by
  unfold lossOf mul
  apply clamp_nn
  have h1 := clamp_nn (sqSum_nn (offs a.cells b.cells a.cells.length))
  have h2 : clamp 128 = 128 := by decide
  rw [h2]
  omega
theorem lossOf_flip {a b : Mat} (h : a.cells.length = b.cells.length) : lossOf b a = lossOf a b := by
  unfold lossOf
  rw [← h, offs_flip, sqSum_neg]
theorem lossOf_self (a : Mat) : lossOf a a = 0 := by
  unfold lossOf
  rw [offs_self, sqSum_zero]
  decide
theorem loss_len {a b : Mat} (h : lossFault a b = 0) : a.cells.length = b.cells.length := by
  obtain ⟨fa, fb, hr, hc⟩ := lossFault_ok h
  obtain ⟨R, C, e1, e2, _, _, e3, _⟩ := matFault_ok fa
  obtain ⟨R', C', e1', e2', _, _, e3', _⟩ := matFault_ok fb
  have r1 : R = R' := by omega
  have r2 : C = C' := by omega
  subst r1 r2
  omega
end Gal
