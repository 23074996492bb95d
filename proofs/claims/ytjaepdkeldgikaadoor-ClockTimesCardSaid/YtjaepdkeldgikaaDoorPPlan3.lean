/- Plain: plans whose stages go so many forwards ahead. No program in sight. -/
import Derived.Test.YtjaepdkeldgikaaDoorPPlan2
set_option linter.unusedVariables false
set_option linter.unusedSimpArgs false
namespace Gal
/-- the forwards from a on, ahead of b -/
def fwdL (a b : Nat) : List ActD := (List.range (b - a)).map fun i => ((1 : Int), ((a + i : Nat) : Int))
/-- how many went forward behind m rounds -/
def nxtA (f M : Nat) (m : Nat) : Nat := if m = 0 then 0 else min (f + m) M
def stageTo (f M : Nat) : Nat → List ActD
  | 0 => []
  | m + 1 => stageTo f M m ++ fwdL (nxtA f M m) (nxtA f M (m + 1)) ++ [(2, (m : Int))]
def aheadOf (S M : Nat) (f : Nat → Nat) : PlanD := (List.range S).map fun s => stageTo (f s) M M
def waveOf (S M : Nat) : PlanD := aheadOf S M fun _ => M
def turnsOf (S M : Nat) : PlanD := aheadOf S M fun s => S - 1 - s
theorem fwdL_nil (a : Nat) : fwdL a a = [] := by simp [fwdL]
theorem fwdL_snoc {a q : Nat} (h : a ≤ q) : fwdL a (q + 1) = fwdL a q ++ [(1, (q : Int))] := by
  unfold fwdL
  rw [show q + 1 - a = (q - a) + 1 by omega, List.range_succ, List.map_append]
  simp
  omega
theorem nxtA_mono {f M m : Nat} (h : m < M) : nxtA f M m ≤ nxtA f M (m + 1) := by unfold nxtA; split <;> (try rw [if_neg (by omega)]) <;> omega
theorem nxtA_next {f M m : Nat} : nxtA f M (m + 1) = min (f + 1 + m) M := by unfold nxtA; rw [if_neg (by omega)]; omega
theorem nxtA_le {f M m : Nat} : nxtA f M m ≤ M := by unfold nxtA; split <;> omega
theorem stageTo_length {f M : Nat} : ∀ {m : Nat}, m ≤ M → (stageTo f M m).length = nxtA f M m + m
  | 0, _ => rfl
  | m + 1, h => by
    rw [stageTo, List.length_append, List.length_append, stageTo_length (by omega)]
    have := nxtA_mono (f := f) (show m < M by omega)
    simp [fwdL]
    omega
theorem aheadOf_length (S M : Nat) (f : Nat → Nat) : (aheadOf S M f).length = S := by simp [aheadOf]
theorem aheadOf_px {S M s : Nat} {f : Nat → Nat} (h : s < S) : px (aheadOf S M f) s = stageTo (f s) M M := by simp [px, aheadOf, h]
theorem aheadOf_pos {S M : Nat} {f : Nat → Nat} (hM : 1 ≤ M) : ∀ l ∈ aheadOf S M f, 0 < l.length := fun l hl => by
  obtain ⟨s, _, rfl⟩ := List.mem_map.1 hl
  rw [stageTo_length (Nat.le_refl _)]
  omega
end Gal
