/- Plain: layers one behind the other. No program in sight. -/
import Derived.Test.YtgknjikjjklaiaaDoorPLaws
set_option linter.unusedVariables false
set_option linter.unusedSimpArgs false
namespace Gal
def Lay.none : Lay := ⟨0, Mat.none, Mat.none⟩
def lx (n : List Lay) (i : Nat) : Lay := n[i]?.getD Lay.none
theorem lx_of {n : List Lay} {i : Nat} {l : Lay} (h : n[i]? = some l) : lx n i = l := by unfold lx; rw [h]; rfl
theorem lx_get {n : List Lay} {i : Nat} (h : i < n.length) : n[i]? = some (lx n i) := by unfold lx; rw [List.getElem?_eq_getElem h]; rfl
/-- how wide it is behind the first k layers -/
def netW (n : List Lay) (i : Int) : Nat → Int
  | 0 => i
  | k + 1 => (lx n k).wide (netW n i k)
/-- what is wrong with the first k layers, of so many columns -/
def wideTo (n : List Lay) (i : Int) : Nat → Int
  | 0 => 0
  | k + 1 => if wideTo n i k = 0 then (lx n k).wideFault (netW n i k) else wideTo n i k
def netWideFault (n : List Lay) (i : Int) : Int :=
  if 12 < n.length then 3 else if n.length = 0 ∧ (i < 0 ∨ 12 < i) then 1 else wideTo n i n.length
/-- what comes behind the first k layers -/
def netTo (n : List Lay) (x : Mat) : Nat → Mat
  | 0 => x
  | k + 1 => (lx n k).go (netTo n x k)
def goTo (n : List Lay) (x : Mat) : Nat → Int
  | 0 => 0
  | k + 1 => if goTo n x k = 0 then (lx n k).goFault (netTo n x k) else goTo n x k
def netGoFault (n : List Lay) (x : Mat) : Int := if 12 < n.length then 3 else if x.fault ≠ 0 then x.fault else goTo n x n.length
/-- what stands behind each of the first k layers -/
def netOuts (n : List Lay) (x : Mat) (k : Nat) : List Mat := (List.range (k + 1)).map (netTo n x)
theorem netOuts_zero (n : List Lay) (x : Mat) : netOuts n x 0 = [x] := rfl
theorem netOuts_succ (n : List Lay) (x : Mat) (k : Nat) : netOuts n x (k + 1) = netOuts n x k ++ [netTo n x (k + 1)] := by
  unfold netOuts
  rw [List.range_succ (n := k + 1), List.map_append]
  rfl
theorem netOuts_length (n : List Lay) (x : Mat) (k : Nat) : (netOuts n x k).length = k + 1 := by simp [netOuts]
theorem netOuts_last (n : List Lay) (x : Mat) (k : Nat) : (netOuts n x k)[k]? = some (netTo n x k) := by simp [netOuts]
theorem wideTo_stop {n : List Lay} {i : Int} {k m : Nat} (h : k ≤ m) (hk : wideTo n i k ≠ 0) : wideTo n i m = wideTo n i k := by
  induction m with
  | zero => obtain rfl : k = 0 := by omega
            rfl
  | succ m ih =>
    by_cases hm : k ≤ m
    · have := ih hm
      show (if wideTo n i m = 0 then _ else wideTo n i m) = _
      rw [if_neg (by rw [this]; exact hk), this]
    · obtain rfl : k = m + 1 := by omega
      rfl
theorem goTo_stop {n : List Lay} {x : Mat} {k m : Nat} (h : k ≤ m) (hk : goTo n x k ≠ 0) : goTo n x m = goTo n x k := by
  induction m with
  | zero => obtain rfl : k = 0 := by omega
            rfl
  | succ m ih =>
    by_cases hm : k ≤ m
    · have := ih hm
      show (if goTo n x m = 0 then _ else goTo n x m) = _
      rw [if_neg (by rw [this]; exact hk), this]
    · obtain rfl : k = m + 1 := by omega
      rfl
theorem wideTo_succ {n : List Lay} {i : Int} {k : Nat} (h : wideTo n i k = 0) : wideTo n i (k + 1) = (lx n k).wideFault (netW n i k) := if_pos h
theorem goTo_succ {n : List Lay} {x : Mat} {k : Nat} (h : goTo n x k = 0) : goTo n x (k + 1) = (lx n k).goFault (netTo n x k) := if_pos h
/-- widths behind layers without a fault lie between 0 and 12 -/
theorem wide_bd {l : Lay} {i : Int} (h : l.wideFault i = 0) : 0 ≤ l.wide i ∧ l.wide i ≤ 12 := by
  obtain ⟨h1, h2, h3, h4⟩ := Lay.wideFault_ok h
  obtain ⟨_, _, fw, _, _⟩ := Lay.fault_ok h1
  obtain ⟨R, K, _, e, _, hK, _⟩ := matFault_ok fw
  unfold Lay.wide
  by_cases q : l.kind = 1
  · rw [if_pos q]; omega
  · rw [if_neg q]; omega
theorem netW_bd {n : List Lay} {i : Int} {k : Nat} (h : wideTo n i k = 0) (hk : 0 < k) : 0 ≤ netW n i k ∧ netW n i k ≤ 12 := by
  cases k with
  | zero => omega
  | succ k =>
    by_cases h0 : wideTo n i k = 0
    · rw [wideTo_succ h0] at h
      exact wide_bd h
    · have : wideTo n i (k + 1) = wideTo n i k := if_neg h0
      rw [this] at h
      exact absurd h h0
theorem netTo_fault {n : List Lay} {x : Mat} {k : Nat} (hx : x.fault = 0) (h : goTo n x k = 0) : (netTo n x k).fault = 0 := by
  cases k with
  | zero => exact hx
  | succ k =>
    by_cases h0 : goTo n x k = 0
    · rw [goTo_succ h0] at h
      exact go_fault h
    · have : goTo n x (k + 1) = goTo n x k := if_neg h0
      rw [this] at h
      exact absurd h h0
end Gal
