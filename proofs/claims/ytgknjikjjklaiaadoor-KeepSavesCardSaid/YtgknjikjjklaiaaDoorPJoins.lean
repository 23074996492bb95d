/- Plain: two nets, one behind the other, are one net, there and back. No program in sight. -/
import Derived.Test.YtgknjikjjklaiaaDoorPBack
set_option linter.unusedVariables false
set_option linter.unusedSimpArgs false
namespace Gal
section
variable {ps qs : List Lay} {x g : Mat} {n m : Nat}
theorem lx_left {j : Nat} (h : j < ps.length) : lx (ps ++ qs) j = lx ps j := by unfold lx; rw [List.getElem?_append_left h]
theorem lx_right {j : Nat} : lx (ps ++ qs) (ps.length + j) = lx qs j := by unfold lx; rw [List.getElem?_append_right (by omega)]; congr 2; omega
theorem netTo_left : ∀ {k : Nat}, k ≤ ps.length → netTo (ps ++ qs) x k = netTo ps x k
  | 0, _ => rfl
  | k + 1, h => by
    show (lx (ps ++ qs) k).go (netTo (ps ++ qs) x k) = (lx ps k).go (netTo ps x k)
    rw [netTo_left (by omega), lx_left (by omega)]
theorem netTo_right : ∀ {k : Nat}, netTo (ps ++ qs) x (ps.length + k) = netTo qs (netTo ps x ps.length) k
  | 0 => netTo_left (Nat.le_refl _)
  | k + 1 => by
    show (lx (ps ++ qs) (ps.length + k)).go (netTo (ps ++ qs) x (ps.length + k)) = (lx qs k).go (netTo qs (netTo ps x ps.length) k)
    rw [netTo_right, lx_right]
theorem goTo_left : ∀ {k : Nat}, k ≤ ps.length → goTo (ps ++ qs) x k = goTo ps x k
  | 0, _ => rfl
  | k + 1, h => by
    show (if goTo (ps ++ qs) x k = 0 then (lx (ps ++ qs) k).goFault (netTo (ps ++ qs) x k) else goTo (ps ++ qs) x k) = (if goTo ps x k = 0 then (lx ps k).goFault (netTo ps x k) else goTo ps x k)
    rw [goTo_left (by omega), netTo_left (by omega), lx_left (by omega)]
theorem goTo_right (h : goTo ps x ps.length = 0) : ∀ {k : Nat}, goTo (ps ++ qs) x (ps.length + k) = goTo qs (netTo ps x ps.length) k
  | 0 => (goTo_left (Nat.le_refl _)).trans h
  | k + 1 => by
    show (if goTo (ps ++ qs) x (ps.length + k) = 0 then (lx (ps ++ qs) (ps.length + k)).goFault (netTo (ps ++ qs) x (ps.length + k)) else goTo (ps ++ qs) x (ps.length + k)) = (if goTo qs (netTo ps x ps.length) k = 0 then (lx qs k).goFault (netTo qs (netTo ps x ps.length) k) else goTo qs (netTo ps x ps.length) k)
    rw [goTo_right h, netTo_right, lx_right]
theorem goTo_less {k j : Nat} (hk : k ≤ j) (h : goTo ps x j = 0) : goTo ps x k = 0 := Classical.byContradiction fun hne => hne ((goTo_stop hk hne).symm.trans h)
theorem outs_fault (hx : x.fault = 0) : ∀ {k : Nat}, goTo ps x k = 0 → (netTo ps x k).fault = 0
  | 0, _ => hx
  | k + 1, h => by
    have h0 := goTo_less (Nat.le_succ k) h
    rw [goTo_succ h0] at h
    exact go_fault h
/-- what comes behind the first net -/
def midOf (ps : List Lay) (x : Mat) : Mat := netTo ps x ps.length
theorem join_go (h : netGoFault (ps ++ qs) x = 0) : netGoFault ps x = 0 ∧ netGoFault qs (midOf ps x) = 0 ∧ netOuts (ps ++ qs) x (ps.length + qs.length) = netOuts ps x ps.length ++ (netOuts qs (midOf ps x) qs.length).drop 1 ∧ (midOf ps x).fault = 0 := by
  unfold netGoFault at h
  by_cases h1 : 12 < (ps ++ qs).length
  · rw [if_pos h1] at h; exact absurd h (by decide)
  rw [if_neg h1] at h
  by_cases h2 : x.fault ≠ 0
  · rw [if_pos h2] at h; exact absurd h h2
  rw [if_neg h2, List.length_append] at h
  rw [List.length_append] at h1
  have hx : x.fault = 0 := Classical.not_not.1 h2
  have ha : goTo ps x ps.length = 0 := by rw [← goTo_left (qs := qs) (Nat.le_refl _)]; exact goTo_less (by omega) h
  have hb : goTo qs (midOf ps x) qs.length = 0 := by unfold midOf; rw [← goTo_right ha]; exact h
  have hm : (midOf ps x).fault = 0 := outs_fault hx ha
  refine ⟨?_, ?_, ?_, hm⟩
  · unfold netGoFault; rw [if_neg (by omega), if_neg h2]; exact ha
  · unfold netGoFault; rw [if_neg (by omega), if_neg (by simp [hm])]; exact hb
  · unfold netOuts
    rw [show ps.length + qs.length + 1 = (ps.length + 1) + qs.length by omega, List.range_add, List.map_append]
    congr 1
    · exact List.map_congr_left fun j hj => netTo_left (by have := List.mem_range.1 hj; omega)
    · rw [List.range_succ_eq_map, List.map_cons, List.drop_one, List.tail_cons, List.map_map, List.map_map]
      refine List.map_congr_left fun j _ => ?_
      show netTo (ps ++ qs) x (ps.length + 1 + j) = netTo qs (midOf ps x) (j + 1)
      rw [show ps.length + 1 + j = ps.length + (j + 1) by omega]
      exact netTo_right
theorem outs_mx {k j : Nat} (h : j ≤ k) : mx (netOuts ps x k) j = netTo ps x j := by
  unfold mx netOuts
  rw [List.getElem?_map, List.getElem?_range (by omega)]
  rfl
/-- what was seen by both, by the first one, by the second one -/
abbrev sawAll (ps qs : List Lay) (x : Mat) : List Mat := netOuts (ps ++ qs) x (ps.length + qs.length)
abbrev sawOne (ps : List Lay) (x : Mat) : List Mat := netOuts ps x ps.length
theorem saw_left {j : Nat} (h : j ≤ ps.length) : mx (sawAll ps qs x) j = mx (sawOne ps x) j := by
  unfold sawAll sawOne
  rw [outs_mx (by omega), outs_mx h, netTo_left h]
theorem saw_right {j : Nat} (h : j ≤ qs.length) : mx (sawAll ps qs x) (ps.length + j) = mx (sawOne qs (midOf ps x)) j := by
  unfold sawAll sawOne
  rw [outs_mx (by omega), outs_mx h, netTo_right]
  rfl
theorem bM_right : ∀ {t : Nat}, t ≤ qs.length → bM (ps ++ qs) (sawAll ps qs x) g (ps.length + qs.length) t = bM qs (sawOne qs (midOf ps x)) g qs.length t
  | 0, _ => rfl
  | t + 1, h => by
    show (lx (ps ++ qs) (ps.length + qs.length - 1 - t)).back (mx (sawAll ps qs x) (ps.length + qs.length - 1 - t)) (bM (ps ++ qs) (sawAll ps qs x) g (ps.length + qs.length) t) = (lx qs (qs.length - 1 - t)).back (mx (sawOne qs (midOf ps x)) (qs.length - 1 - t)) (bM qs (sawOne qs (midOf ps x)) g qs.length t)
    rw [bM_right (by omega), show ps.length + qs.length - 1 - t = ps.length + (qs.length - 1 - t) by omega, lx_right, saw_right (by omega)]
theorem bF_right : ∀ {t : Nat}, t ≤ qs.length → bF (ps ++ qs) (sawAll ps qs x) g (ps.length + qs.length) t = bF qs (sawOne qs (midOf ps x)) g qs.length t
  | 0, _ => rfl
  | t + 1, h => by
    show (if bF (ps ++ qs) (sawAll ps qs x) g (ps.length + qs.length) t = 0 then (lx (ps ++ qs) (ps.length + qs.length - 1 - t)).backFault (mx (sawAll ps qs x) (ps.length + qs.length - 1 - t)) (bM (ps ++ qs) (sawAll ps qs x) g (ps.length + qs.length) t) else bF (ps ++ qs) (sawAll ps qs x) g (ps.length + qs.length) t) =
      (if bF qs (sawOne qs (midOf ps x)) g qs.length t = 0 then (lx qs (qs.length - 1 - t)).backFault (mx (sawOne qs (midOf ps x)) (qs.length - 1 - t)) (bM qs (sawOne qs (midOf ps x)) g qs.length t) else bF qs (sawOne qs (midOf ps x)) g qs.length t)
    rw [bF_right (by omega), bM_right (by omega), show ps.length + qs.length - 1 - t = ps.length + (qs.length - 1 - t) by omega, lx_right, saw_right (by omega)]
/-- what comes back out of the second net -/
def backOf (ps qs : List Lay) (x g : Mat) : Mat := bM qs (sawOne qs (midOf ps x)) g qs.length qs.length
theorem bM_left : ∀ {t : Nat}, t ≤ ps.length → bM (ps ++ qs) (sawAll ps qs x) g (ps.length + qs.length) (qs.length + t) = bM ps (sawOne ps x) (backOf ps qs x g) ps.length t
  | 0, _ => bM_right (Nat.le_refl _)
  | t + 1, h => by
    show (lx (ps ++ qs) (ps.length + qs.length - 1 - (qs.length + t))).back (mx (sawAll ps qs x) (ps.length + qs.length - 1 - (qs.length + t))) (bM (ps ++ qs) (sawAll ps qs x) g (ps.length + qs.length) (qs.length + t)) = (lx ps (ps.length - 1 - t)).back (mx (sawOne ps x) (ps.length - 1 - t)) (bM ps (sawOne ps x) (backOf ps qs x g) ps.length t)
    rw [bM_left (by omega), show ps.length + qs.length - 1 - (qs.length + t) = ps.length - 1 - t by omega, lx_left (by omega), saw_left (by omega)]
theorem bF_left (h0 : bF qs (sawOne qs (midOf ps x)) g qs.length qs.length = 0) : ∀ {t : Nat}, t ≤ ps.length → bF (ps ++ qs) (sawAll ps qs x) g (ps.length + qs.length) (qs.length + t) = bF ps (sawOne ps x) (backOf ps qs x g) ps.length t
  | 0, _ => (bF_right (Nat.le_refl _)).trans h0
  | t + 1, h => by
    show (if bF (ps ++ qs) (sawAll ps qs x) g (ps.length + qs.length) (qs.length + t) = 0 then (lx (ps ++ qs) (ps.length + qs.length - 1 - (qs.length + t))).backFault (mx (sawAll ps qs x) (ps.length + qs.length - 1 - (qs.length + t))) (bM (ps ++ qs) (sawAll ps qs x) g (ps.length + qs.length) (qs.length + t)) else bF (ps ++ qs) (sawAll ps qs x) g (ps.length + qs.length) (qs.length + t)) =
      (if bF ps (sawOne ps x) (backOf ps qs x g) ps.length t = 0 then (lx ps (ps.length - 1 - t)).backFault (mx (sawOne ps x) (ps.length - 1 - t)) (bM ps (sawOne ps x) (backOf ps qs x g) ps.length t) else bF ps (sawOne ps x) (backOf ps qs x g) ps.length t)
    rw [bF_left h0 (by omega), bM_left (by omega), show ps.length + qs.length - 1 - (qs.length + t) = ps.length - 1 - t by omega, lx_left (by omega), saw_left (by omega)]
theorem bDs_join : bDs (ps ++ qs) (sawAll ps qs x) g (ps.length + qs.length) = bDs ps (sawOne ps x) (backOf ps qs x g) ps.length ++ bDs qs (sawOne qs (midOf ps x)) g qs.length := by
  unfold bDs
  rw [List.range_add, List.map_append, List.map_map]
  congr 1
  · refine List.map_congr_left fun j hj => ?_
    have hj' := List.mem_range.1 hj
    unfold bD
    rw [show ps.length + qs.length - 1 - j = qs.length + (ps.length - 1 - j) by omega, bM_left (by omega), show ps.length + qs.length - 1 - (qs.length + (ps.length - 1 - j)) = ps.length - 1 - (ps.length - 1 - j) by omega, lx_left (by omega), saw_left (by omega)]
  · refine List.map_congr_left fun j hj => ?_
    have hj' := List.mem_range.1 hj
    show bD (ps ++ qs) (sawAll ps qs x) g (ps.length + qs.length) (ps.length + qs.length - 1 - (ps.length + j)) = bD qs (sawOne qs (midOf ps x)) g qs.length (qs.length - 1 - j)
    unfold bD
    rw [show ps.length + qs.length - 1 - (ps.length + j) = qs.length - 1 - j by omega, bM_right (by omega), show ps.length + qs.length - 1 - (qs.length - 1 - j) = ps.length + (qs.length - 1 - (qs.length - 1 - j)) by omega, lx_right, saw_right (by omega)]
theorem bF_less {ls : List Lay} {ss : List Mat} {k j : Nat} (hk : k ≤ j) (h : bF ls ss g n j = 0) : bF ls ss g n k = 0 := Classical.byContradiction fun hne => hne ((bF_stays hk hne).symm.trans h)
/-- what comes back is whole -/
theorem bM_fault {ls : List Lay} {ss : List Mat} {k : Nat} (hk : 0 < k) (h : bF ls ss g n k = 0) : (bM ls ss g n k).fault = 0 := by
  obtain ⟨j, rfl⟩ : ∃ j, k = j + 1 := ⟨k - 1, by omega⟩
  have h0 := bF_less (Nat.le_succ j) h
  rw [bF_next h0] at h
  exact (back_fault h).1
theorem bF_g {ls : List Lay} {ss : List Mat} {k : Nat} (hk : 0 < k) (h : bF ls ss g n k = 0) : g.fault = 0 := by
  have h1 := bF_less (show 1 ≤ k from hk) h
  rw [bF_next rfl] at h1
  exact (Lay.backFault_ok h1).2.1
theorem netBackFault_ok {ls : List Lay} {ss : List Mat} (h : netBackFault ls ss g = 0) : ls.length ≤ 12 ∧ ss.length = ls.length + 1 ∧ g.fault = 0 ∧ bF ls ss g ls.length ls.length = 0 ∧ (bM ls ss g ls.length ls.length).fault = 0 := by
  unfold netBackFault at h
  by_cases h1 : 12 < ls.length
  · rw [if_pos h1] at h; exact absurd h (by decide)
  rw [if_neg h1] at h
  by_cases h2 : ss.length ≠ ls.length + 1
  · rw [if_pos h2] at h; exact absurd h (by decide)
  rw [if_neg h2] at h
  by_cases h3 : ls.length = 0
  · rw [if_pos h3] at h
    rw [h3]
    exact ⟨by omega, by omega, h, rfl, h⟩
  · rw [if_neg h3] at h
    exact ⟨by omega, by omega, bF_g (by omega) h, h, bM_fault (by omega) h⟩
theorem netBackFault_zero {ls : List Lay} {ss : List Mat} (h1 : ls.length ≤ 12) (h2 : ss.length = ls.length + 1) (hg : g.fault = 0) (h : bF ls ss g ls.length ls.length = 0) : netBackFault ls ss g = 0 := by
  unfold netBackFault
  rw [if_neg (by omega), if_neg (by omega)]
  by_cases h3 : ls.length = 0
  · rw [if_pos h3]; exact hg
  · rw [if_neg h3]; exact h
theorem join_back (h : netBackFault (ps ++ qs) (sawAll ps qs x) g = 0) : netBackFault qs (sawOne qs (midOf ps x)) g = 0 ∧ (backOf ps qs x g).fault = 0 ∧ netBackFault ps (sawOne ps x) (backOf ps qs x g) = 0 ∧
    bM (ps ++ qs) (sawAll ps qs x) g (ps.length + qs.length) (ps.length + qs.length) = bM ps (sawOne ps x) (backOf ps qs x g) ps.length ps.length := by
  obtain ⟨h1, _, hg, hb, _⟩ := netBackFault_ok h
  rw [List.length_append] at h1 hb
  have hq : bF qs (sawOne qs (midOf ps x)) g qs.length qs.length = 0 := by rw [← bF_right (Nat.le_refl _)]; exact bF_less (by omega) hb
  have h2 : netBackFault qs (sawOne qs (midOf ps x)) g = 0 := netBackFault_zero (by omega) (netOuts_length _ _ _) hg hq
  have hm : (backOf ps qs x g).fault = 0 := (netBackFault_ok h2).2.2.2.2
  refine ⟨h2, hm, netBackFault_zero (by omega) (netOuts_length _ _ _) hm ?_, ?_⟩
  · rw [← bF_left hq (Nat.le_refl _)]
    have e : qs.length + ps.length = ps.length + qs.length := by omega
    exact (congrArg (bF (ps ++ qs) (sawAll ps qs x) g (ps.length + qs.length)) e).trans hb
  · have e : ps.length + qs.length = qs.length + ps.length := by omega
    exact (congrArg (bM (ps ++ qs) (sawAll ps qs x) g (ps.length + qs.length)) e).trans (bM_left (Nat.le_refl _))
end
end Gal
