/- Plain: going back sooner at the last stage gets no wave stuck. No program in sight. -/
import Derived.Test.YtjaepdkeldgikaaDoorPPlan4
set_option linter.unusedVariables false
set_option linter.unusedSimpArgs false
set_option maxRecDepth 100000
namespace Gal
/-- the k-th act and the one ahead of it, the other way round -/
def swapAt (l : List ActD) (k : Nat) : List ActD := (l.set k (ax l (k - 1))).set (k - 1) (ax l k)
def swapIf (l : List ActD) (k : Nat) : Prop := (ax l k).1 = 2 ∧ (ax l (k - 1)).1 = 1 ∧ (ax l k).2 ≠ (ax l (k - 1)).2
instance (l : List ActD) (k : Nat) : Decidable (swapIf l k) := by unfold swapIf; exact inferInstance
def tauSwap (S M : Nat) (s : Nat) (a : ActD) : Nat := if s + 1 = S ∧ a = (2, 0) then 2 * (M - 2 + S - 1) + 1 else 2 * tauWave S M s a
def swapWave (S M : Nat) : PlanD := (waveOf S M).set (S - 1) (swapAt (stageTo M M M) M)
theorem swap_where : ∀ M : Fin 12, ∀ k : Fin 24, 1 ≤ k.val → swapIf (stageTo (M.val + 1) (M.val + 1) (M.val + 1)) k.val → k.val = M.val + 1 ∧ 1 ≤ M.val := by decide +kernel
theorem swap_timed : ∀ S : Fin 6, ∀ M : Fin 12, 1 ≤ M.val → Timed (swapWave (S.val + 1) (M.val + 1)) (tauSwap (S.val + 1) (M.val + 1)) ∧ stagesOk ((M.val + 1 : Nat) : Int) (swapWave (S.val + 1) (M.val + 1)) := by decide +kernel
theorem swap_ok {S M k : Nat} (hS : 1 ≤ S ∧ S ≤ 6) (hM : 1 ≤ M ∧ M ≤ 12) (hk : 1 ≤ k ∧ k < 2 * M) (h : swapIf (stageTo M M M) k) : planFault M ((waveOf S M).set (S - 1) (swapAt (stageTo M M M) k)) = 0 := by
  have h0 := swap_where ⟨M - 1, by omega⟩ ⟨k, by omega⟩ hk.1
  simp only [show M - 1 + 1 = M by omega] at h0
  obtain ⟨rfl, h1⟩ := h0 h
  have h2 := swap_timed ⟨S - 1, by omega⟩ ⟨k - 1, by omega⟩ h1
  simp only [show S - 1 + 1 = S by omega, show k - 1 + 1 = k by omega] at h2
  exact timed_ok (by unfold planBad waveOf; rw [List.length_set, aheadOf_length]; omega) h2.2 h2.1
theorem ax_set {l : List ActD} {k i : Nat} {x : ActD} (hk : k < l.length) : ax (l.set k x) i = if i = k then x else ax l i := by
  unfold ax
  rw [List.getElem?_set]
  by_cases e : k = i
  · rw [if_pos e, if_pos hk, if_pos e.symm]; rfl
  · rw [if_neg e, if_neg (fun h => e h.symm)]
theorem px_set {p : PlanD} {k i : Nat} {x : List ActD} (hk : k < p.length) : px (p.set k x) i = if i = k then x else px p i := by
  unfold px
  rw [List.getElem?_set]
  by_cases e : k = i
  · rw [if_pos e, if_pos hk, if_pos e.symm]; rfl
  · rw [if_neg e, if_neg (fun h => e h.symm)]
end Gal
