/- Plain: what goes through a net that fits is whole, there and back, and so is by how much it is to be turned. No program in sight. -/
import Derived.Test.YtgknjikjjklaiaaDoorPJoins
import Derived.Test.YtgknjikjjklaiaaDoorPGath
import Derived.Test.YtgknjikjjklaiaaDoorPStay
set_option linter.unusedVariables false
set_option linter.unusedSimpArgs false
namespace Gal
theorem wideTo_less {n : List Lay} {i : Int} {k j : Nat} (hk : k ≤ j) (h : wideTo n i j = 0) : wideTo n i k = 0 := Classical.byContradiction fun hne => hne ((wideTo_stop hk hne).symm.trans h)
/-- where the widths fit, all goes -/
theorem go_wide {n : List Lay} {x : Mat} (hx : x.fault = 0) : ∀ {k : Nat}, wideTo n x.cols k = 0 → goTo n x k = 0 ∧ (netTo n x k).cols = netW n x.cols k ∧ (netTo n x k).rows = x.rows
  | 0, _ => ⟨rfl, rfl, rfl⟩
  | k + 1, h => by
    have h0 := wideTo_less (Nat.le_succ k) h
    obtain ⟨h1, h2, h3⟩ := go_wide hx h0
    rw [wideTo_succ h0] at h
    have hf : (lx n k).goFault (netTo n x k) = 0 := by rw [Lay.goFault_wide (netTo_fault hx h1), h2]; exact h
    refine ⟨by rw [goTo_succ h1]; exact hf, ?_, ?_⟩
    · show ((lx n k).go (netTo n x k)).cols = (lx n k).wide (netW n x.cols k)
      rw [go_cols, h2]
    · show ((lx n k).go (netTo n x k)).rows = x.rows
      rw [go_rows', h3]
theorem backFault_zero {l : Lay} {x g : Mat} (h1 : l.goFault x = 0) (h2 : g.fault = 0) (h3 : g.rows = x.rows) (h4 : g.cols = l.wide x.cols) (h5 : x.rows ≤ 12) : l.backFault x g = 0 := by
  unfold Lay.backFault
  rw [if_neg (by simp [h1]), if_neg (by simp [h2]), if_neg (by simp [h3, h4]), if_neg (by omega)]
section
variable {ls : List Lay} {x g : Mat}
/-- what fits behind the last layer goes back to the first one -/
theorem backs_ok (hgo : goTo ls x ls.length = 0) (hg : g.fault = 0) (hr : g.rows = x.rows) (hc : g.cols = (netTo ls x ls.length).cols) (h12 : x.rows ≤ 12) (hrow : ∀ k, k ≤ ls.length → (netTo ls x k).rows = x.rows) :
    ∀ t, t ≤ ls.length → bF ls (netOuts ls x ls.length) g ls.length t = 0 ∧ (bM ls (netOuts ls x ls.length) g ls.length t).fault = 0 ∧ (bM ls (netOuts ls x ls.length) g ls.length t).rows = x.rows ∧ (bM ls (netOuts ls x ls.length) g ls.length t).cols = (netTo ls x (ls.length - t)).cols ∧
      (∀ s, s < t → (lx ls (ls.length - 1 - s)).backFault (mx (netOuts ls x ls.length) (ls.length - 1 - s)) (bM ls (netOuts ls x ls.length) g ls.length s) = 0)
  | 0, _ => ⟨rfl, hg, hr, hc, fun s hs => absurd hs (Nat.not_lt_zero _)⟩
  | t + 1, ht => by
    obtain ⟨h1, h2, h3, h4, h5⟩ := backs_ok hgo hg hr hc h12 hrow t (by omega)
    have hX : mx (netOuts ls x ls.length) (ls.length - 1 - t) = netTo ls x (ls.length - 1 - t) := outs_mx (by omega)
    have hgf : (lx ls (ls.length - 1 - t)).goFault (netTo ls x (ls.length - 1 - t)) = 0 := by
      have h6 := goTo_less (show ls.length - 1 - t + 1 ≤ ls.length by omega) hgo
      rwa [goTo_succ (goTo_less (Nat.le_succ _) h6)] at h6
    have hb : (lx ls (ls.length - 1 - t)).backFault (mx (netOuts ls x ls.length) (ls.length - 1 - t)) (bM ls (netOuts ls x ls.length) g ls.length t) = 0 := by
      rw [hX]
      refine backFault_zero hgf h2 ?_ ?_ (by rw [hrow _ (by omega)]; exact h12)
      · rw [h3, hrow _ (by omega)]
      · rw [h4, ← go_cols, show ls.length - t = ls.length - 1 - t + 1 by omega]
        rfl
    obtain ⟨h6, h7, h8⟩ := back_fault hb
    refine ⟨by rw [bF_next h1]; exact hb, h6, ?_, ?_, fun s hs => ?_⟩
    · refine h7.trans ?_
      rw [hX]
      exact hrow _ (by omega)
    · refine h8.trans ?_
      rw [hX, show ls.length - (t + 1) = ls.length - 1 - t by omega]
    · rcases Nat.lt_or_ge s t with h9 | h9
      · exact h5 s h9
      · obtain rfl : s = t := by omega
        exact hb
end
theorem none_fault : Mat.none.fault = 0 := by decide
theorem sums_fault {R K : Nat} {xs : List Int} (hK : K ≤ 12) : (matSums ⟨R, K, xs⟩).fault = 0 :=
  matFault_zero (R := 1) (C := K) (by omega) hK (grid_length _ _ _) (grid_inEnds fun i j _ _ => sumTo_clamp _ _)
/-- by how much a layer is to be turned is whole, and of its shape -/
def gradFits (l : Lay) (d : Grd) : Prop := d.W.fault = 0 ∧ d.B.fault = 0 ∧ likeShape d.W l.W ∧ likeShape d.B l.B
theorem grad_ok {l : Lay} {x g : Mat} (h : l.backFault x g = 0) : gradFits l (l.grad x g) := by
  obtain ⟨h1, h2, h3, h4, h5⟩ := Lay.backFault_ok h
  obtain ⟨g1, g2, g3⟩ := Lay.goFault_ok h1
  obtain ⟨k1, k2, k3, k4, k5⟩ := Lay.fault_ok g1
  obtain ⟨R, K, xs, rfl, hR, hK, hl, he⟩ := mat_form g2
  obtain ⟨R', C, gs, rfl, hR', hC, hl', he'⟩ := mat_form h2
  dsimp only at h3 h4 h5 g3
  unfold gradFits Lay.grad likeShape
  rcases k5 with ⟨e, a1, a2, a3, a4, a5⟩ | ⟨e, ⟨a1, a2⟩, ⟨a3, a4⟩⟩ | ⟨e, a1, a2, ⟨a3, a4⟩⟩ | ⟨e, ⟨a1, a2⟩, a3, a4⟩
  · rw [if_pos e]
    have hc : (C : Int) = l.W.cols := by rw [h4]; unfold Lay.wide; rw [if_pos e]
    have hk : (K : Int) = l.W.rows := g3.1 e
    have hr : R ≤ 12 := by have := h5 e; omega
    obtain rfl : R' = R := by omega
    refine ⟨?_, sums_fault hC, ⟨?_, ?_⟩, ?_, ?_⟩
    · show (matMul ⟨(K : Int), (R' : Int), (matTurn ⟨R', K, xs⟩).cells⟩ ⟨R', C, gs⟩).fault = 0
      exact matMul_fault (by omega) hC
    · show (K : Int) = _
      exact hk
    · show (C : Int) = _
      exact hc
    · show (1 : Int) = _
      exact a4.symm
    · show (C : Int) = _
      rw [a5]; exact hc
  · rw [if_neg (by omega), if_pos e]
    exact ⟨none_fault, none_fault, ⟨a1.symm, a2.symm⟩, ⟨a3.symm, a4.symm⟩⟩
  · rw [if_neg (by omega), if_neg (by omega), if_pos e]
    refine ⟨?_, none_fault, ⟨a1.symm, a2.symm⟩, ⟨a3.symm, a4.symm⟩⟩
    exact matFault_zero (R := 1) (C := 1) (by omega) (by omega) rfl (fun j hj => by
      obtain rfl : j = 0 := by simp at hj; omega
      exact sumTo_clamp _ _)
  · rw [if_neg (by omega), if_neg (by omega), if_neg (by omega)]
    have hc : (C : Int) = (K : Int) := by rw [h4]; unfold Lay.wide; rw [if_neg (by omega)]
    have hk : (K : Int) = l.B.cols := g3.2 e
    refine ⟨none_fault, sums_fault hC, ⟨a1.symm, a2.symm⟩, ?_, ?_⟩
    · show (1 : Int) = _
      exact a3.symm
    · show (C : Int) = _
      rw [hc]; exact hk
/-- a list of what is to be turned that fits a net -/
def listFits (ls : List Lay) (ds : List Grd) : Prop := ds.length = ls.length ∧ ∀ k, k < ls.length → gradFits (lx ls k) (gx ds k)
theorem bDs_fits {ls : List Lay} {x g : Mat} (hgo : goTo ls x ls.length = 0) (hg : g.fault = 0) (hr : g.rows = x.rows) (hc : g.cols = (netTo ls x ls.length).cols) (h12 : x.rows ≤ 12) (hrow : ∀ k, k ≤ ls.length → (netTo ls x k).rows = x.rows) :
    listFits ls (bDs ls (netOuts ls x ls.length) g ls.length) := by
  obtain ⟨_, _, _, _, h5⟩ := backs_ok hgo hg hr hc h12 hrow ls.length (Nat.le_refl _)
  refine ⟨bDs_length, fun k hk => ?_⟩
  rw [bDs_gx hk]
  have h6 := h5 (ls.length - 1 - k) (by omega)
  have h7 := grad_ok h6
  have e : ls.length - 1 - (ls.length - 1 - k) = k := by omega
  unfold bD
  rw [e] at h7 ⊢
  exact h7
theorem zeros_fit {ls : List Lay} (h : ∀ k, k < ls.length → (lx ls k).fault = 0) : listFits ls (zeroNet ls) := by
  refine ⟨zeroNet_length ls, fun k hk => ?_⟩
  rw [zeroNet_gx]
  obtain ⟨_, _, h3, h4, _⟩ := Lay.fault_ok (h k hk)
  exact ⟨zeroMat_fault h3, zeroMat_fault h4, ⟨rfl, rfl⟩, ⟨rfl, rfl⟩⟩
theorem matAdd_fault {a b : Mat} (ha : a.fault = 0) : (matAdd a b).fault = 0 := by
  obtain ⟨R, K, xs, rfl, hR, hK, hl, _⟩ := mat_form ha
  exact matFault_zero (R := R) (C := K) hR hK ((upto_length _ _).trans hl) (inEnds_upto fun k _ => add_clamp _ _)
/-- what fits can be put together, and fits again -/
theorem gather_fits {ls : List Lay} {as' bs : List Grd} (ha : listFits ls as') (hb : listFits ls bs) : gatherFault as' bs = 0 ∧ listFits ls (gatherTo as' bs as'.length) := by
  obtain ⟨la, fa⟩ := ha
  obtain ⟨lb, fb⟩ := hb
  have hp : ∀ k, k < ls.length → pairFault (gx as' k) (gx bs k) = 0 := fun k hk => by
    obtain ⟨a1, a2, a3, a4⟩ := fa k hk
    obtain ⟨b1, b2, b3, b4⟩ := fb k hk
    have h1 := lossFault_zero a1 b1 (a3.1.trans b3.1.symm) (a3.2.trans b3.2.symm)
    rw [pairFault_b h1]
    exact lossFault_zero a2 b2 (a4.1.trans b4.1.symm) (a4.2.trans b4.2.symm)
  refine ⟨?_, by rw [gatherTo_length, la], fun k hk => ?_⟩
  · unfold gatherFault
    rw [if_pos (by rw [la, lb]), la]
    have : ∀ k, k ≤ ls.length → gatherFaultTo as' bs k = 0 := fun k => by
      induction k with
      | zero => intro _; rfl
      | succ k ih => intro hk; rw [gather_next (ih (by omega))]; exact hp k (by omega)
    exact this _ (Nat.le_refl _)
  · have e : gx (gatherTo as' bs as'.length) k = pairSum (gx as' k) (gx bs k) := by
      unfold gx gatherTo
      rw [List.getElem?_map, List.getElem?_range (by omega)]
      rfl
    obtain ⟨a1, a2, a3, a4⟩ := fa k hk
    rw [e]
    exact ⟨matAdd_fault a1, matAdd_fault a2, a3, a4⟩
theorem lossBack_fault {a b : Mat} (ha : a.fault = 0) : (lossBack a b).fault = 0 := by
  obtain ⟨R, K, xs, rfl, hR, hK, hl, _⟩ := mat_form ha
  exact matFault_zero (R := R) (C := K) hR hK ((upto_length _ _).trans hl) (inEnds_upto fun k _ => clamp_clamp _)
end Gal
