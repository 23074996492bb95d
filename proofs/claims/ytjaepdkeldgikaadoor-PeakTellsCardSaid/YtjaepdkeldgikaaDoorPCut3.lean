/- Plain: the least limit that so many parts do within, and the first cuts within it, are the document's best cuts. No program in sight. -/
import Derived.Test.YtjaepdkeldgikaaDoorPCut2
set_option linter.unusedVariables false
set_option linter.unusedSimpArgs false
namespace Gal
theorem findSome_if {α β : Type} (q : α → Bool) (h : α → β) : ∀ (l : List α), l.findSome? (fun j => if q j = true then some (h j) else none) = (l.find? q).map h
  | [] => rfl
  | x :: l => by
    rw [List.findSome?_cons, List.find?_cons]
    cases hq : q x with
    | true => simp
    | false => simp [findSome_if q h l]
theorem findSome_congr {α β : Type} {f g : α → Option β} : ∀ {l : List α}, (∀ x ∈ l, f x = g x) → l.findSome? f = l.findSome? g
  | [], _ => rfl
  | x :: l, h => by
    rw [List.findSome?_cons, List.findSome?_cons, h x (by simp), findSome_congr fun y hy => h y (by simp [hy])]
section
variable {c : Nat → Int} {n : Nat} {L : Int}
theorem comps_fits (hL : 0 ≤ L) : ∀ {s k : Nat} {es : List Nat}, es ∈ comps n s k → worst c k es ≤ L → Fits c n L s k
  | 0, k, es, h, _ => by
    unfold comps at h
    by_cases hk : k = n
    · exact hk
    · rw [if_neg hk] at h; cases h
  | s + 1, k, es, h, hw => by
    unfold comps at h
    obtain ⟨j, hj, h1⟩ := List.mem_flatMap.1 h
    obtain ⟨es', h2, rfl⟩ := List.mem_map.1 h1
    have h3 := List.mem_range.1 hj
    have h4 : max (sg c k (k + 1 + j - k)) (worst c (k + 1 + j) es') ≤ L := hw
    rw [show k + 1 + j - k = j + 1 by omega] at h4
    refine ⟨j + 1, by omega, by omega, by omega, ?_⟩
    rw [show k + (j + 1) = k + 1 + j by omega]
    exact comps_fits hL h2 (by omega)
theorem fits_comps : ∀ {s k : Nat}, 0 ≤ L → Fits c n L s k → ∃ es, es ∈ comps n s k ∧ worst c k es ≤ L
  | 0, k, hL, h => ⟨[], by unfold comps; rw [if_pos (show k = n from h)]; simp, hL⟩
  | s + 1, k, hL, ⟨d, h1, h2, h3, h4⟩ => by
    obtain ⟨es, h5, h6⟩ := fits_comps hL h4
    refine ⟨(k + d) :: es, ?_, ?_⟩
    · unfold comps
      refine List.mem_flatMap.2 ⟨d - 1, List.mem_range.2 (by omega), List.mem_map.2 ⟨es, ?_, ?_⟩⟩
      · rw [show k + 1 + (d - 1) = k + d by omega]; exact h5
      · rw [show k + 1 + (d - 1) = k + d by omega]
    · show max (sg c k (k + d - k)) (worst c (k + d) es) ≤ L
      rw [show k + d - k = d by omega]
      omega
theorem picks_succ {s k : Nat} : picks c n L (s + 1) k = match pickAt c n L s k with
    | none => []
    | some j => (k + 1 + j) :: picks c n L s (k + 1 + j) := by rw [picks]; cases pickAt c n L s k <;> rfl
/-- the first ends that do are the first cuts within the limit -/
theorem picks_is (hc : ∀ i, 0 ≤ c i) (hL : 0 ≤ L) : ∀ (s k : Nat), Fits c n L s k → (comps n s k).find? (fun es => decide (worst c k es ≤ L)) = some (picks c n L s k)
  | 0, k, h => by
    have hk : k = n := h
    simp [comps, hk, worst, hL, picks]
  | s + 1, k, h => by
    have hcond : ∀ j ∈ List.range (n - k), ((comps n s (k + 1 + j)).map fun es => (k + 1 + j) :: es).find? (fun es => decide (worst c k es ≤ L)) =
        if decide (sg c k (j + 1) ≤ L ∧ tl c n L (n - (k + 1 + j)) ≤ s ∧ s ≤ n - (k + 1 + j)) = true then some ((k + 1 + j) :: picks c n L s (k + 1 + j)) else none := fun j hj => by
      have hj' := List.mem_range.1 hj
      have hfit := fits_iff (c := c) (n := n) (L := L) hc hL (d := n - (k + 1 + j)) (s := s) (by omega)
      rw [show n - (n - (k + 1 + j)) = k + 1 + j by omega] at hfit
      have hw : ∀ es, worst c k ((k + 1 + j) :: es) = max (sg c k (j + 1)) (worst c (k + 1 + j) es) := fun es => by
        show max (sg c k (k + 1 + j - k)) (worst c (k + 1 + j) es) = _
        rw [show k + 1 + j - k = j + 1 by omega]
      rw [List.find?_map]
      by_cases h1 : sg c k (j + 1) ≤ L
      · have hp : ((fun es => decide (worst c k es ≤ L)) ∘ fun es => (k + 1 + j) :: es) = fun es => decide (worst c (k + 1 + j) es ≤ L) := by
          funext es
          simp only [Function.comp, hw, decide_eq_decide]
          omega
        rw [hp]
        by_cases h2 : Fits c n L s (k + 1 + j)
        · rw [picks_is hc hL s (k + 1 + j) h2, if_pos (by simp only [decide_eq_true_eq]; exact ⟨h1, hfit.1 h2⟩)]
          rfl
        · have h3 : (comps n s (k + 1 + j)).find? (fun es => decide (worst c (k + 1 + j) es ≤ L)) = none := List.find?_eq_none.2 fun es hes => by
            simp only [decide_eq_true_eq]
            exact fun h4 => h2 (comps_fits hL hes h4)
          rw [h3, if_neg (by simp only [decide_eq_true_eq]; exact fun h4 => h2 (hfit.2 h4.2))]
          rfl
      · have h3 : (comps n s (k + 1 + j)).find? ((fun es => decide (worst c k es ≤ L)) ∘ fun es => (k + 1 + j) :: es) = none := List.find?_eq_none.2 fun es hes => by
          simp only [Function.comp, hw, decide_eq_true_eq]
          omega
        rw [h3, if_neg (by simp only [decide_eq_true_eq]; exact fun h4 => h1 h4.1)]
        rfl
    unfold comps
    rw [List.find?_flatMap, findSome_congr hcond, findSome_if (fun j => decide (sg c k (j + 1) ≤ L ∧ tl c n L (n - (k + 1 + j)) ≤ s ∧ s ≤ n - (k + 1 + j))) (fun j => (k + 1 + j) :: picks c n L s (k + 1 + j))]
    have hsome : pickAt c n L s k ≠ none := fun h0 => by
      obtain ⟨d, d1, d2, d3, d4⟩ := h
      have h1 := List.find?_eq_none.1 h0 (d - 1) (List.mem_range.2 (by omega))
      simp only [decide_eq_true_eq] at h1
      have hfit := fits_iff (c := c) (n := n) (L := L) hc hL (d := n - (k + 1 + (d - 1))) (s := s) (by omega)
      rw [show n - (n - (k + 1 + (d - 1))) = k + d by omega] at hfit
      refine h1 ⟨?_, hfit.1 d4⟩
      rw [show d - 1 + 1 = d by omega]
      exact d3
    show (pickAt c n L s k).map _ = some (picks c n L (s + 1) k)
    rw [picks_succ]
    cases hp : pickAt c n L s k with
    | none => exact absurd hp hsome
    | some j => rfl
/-- the document's best cuts: the least limit that does, and the first cuts within it -/
theorem best_is (hc : ∀ i, 0 ≤ c i) {s : Nat} (hs : s + 1 ≤ n) :
    0 ≤ (refBest c n s 0 0).2 ∧ tl c n (refBest c n s 0 0).2 n ≤ s + 1 ∧ (∀ M, 0 ≤ M → tl c n M n ≤ s + 1 → (refBest c n s 0 0).2 ≤ M) ∧ picks c n (refBest c n s 0 0).2 (s + 1) 0 = (refBest c n s 0 0).1 := by
  obtain ⟨h1, h2⟩ := refBest_is (c := c) (n := n) hc s 0 0 (by omega)
  have hnn := worst_nn hc (refBest c n s 0 0).1 0
  have h3 : (refBest c n s 0 0).2 = worst c 0 (refBest c n s 0 0).1 := by rw [h2]; omega
  have hm0 : 0 ≤ (refBest c n s 0 0).2 := by rw [h3]; exact hnn
  have hfit : Fits c n (refBest c n s 0 0).2 (s + 1) 0 := comps_fits hm0 h1.mem (by rw [h3]; exact Int.le_refl _)
  have htl : ∀ M, 0 ≤ M → (Fits c n M (s + 1) 0 ↔ tl c n M n ≤ s + 1) := fun M hM => by
    have := fits_iff (c := c) (n := n) (L := M) hc hM (d := n) (s := s + 1) (Nat.le_refl _)
    rw [Nat.sub_self] at this
    exact ⟨fun h => (this.1 h).1, fun h => this.2 ⟨h, hs⟩⟩
  refine ⟨hm0, (htl _ hm0).1 hfit, fun M hM hM2 => ?_, ?_⟩
  · obtain ⟨es, e1, e2⟩ := fits_comps hM ((htl M hM).2 hM2)
    have h4 : max 0 (worst c 0 (refBest c n s 0 0).1) ≤ max 0 (worst c 0 es) := h1.le e1
    omega
  · have hp := picks_is (c := c) (n := n) hc hm0 (s + 1) 0 hfit
    have hq := h1.find
    have hfun : (fun y => decide (max 0 (worst c 0 y) ≤ max 0 (worst c 0 (refBest c n s 0 0).1))) = fun es => decide (worst c 0 es ≤ (refBest c n s 0 0).2) := by
      funext es
      rw [decide_eq_decide, h3]
      have := worst_nn hc es 0
      omega
    rw [hfun] at hq
    exact Option.some.inj (hp.symm.trans hq)
end
end Gal
