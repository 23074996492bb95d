/- Plain: one step of a net. No program in sight. -/
import Derived.Test.YtgknjikjjklaiaaDoorPNet
set_option linter.unusedVariables false
set_option linter.unusedSimpArgs false
namespace Gal
def gx (ds : List Grd) (i : Nat) : Grd := ds[i]?.getD Grd.none
theorem gx_get {ds : List Grd} {i : Nat} (h : i < ds.length) : ds[i]? = some (gx ds i) := by unfold gx; rw [List.getElem?_eq_getElem h]; rfl
/-- the new speed of a part -/
def stepSpeed (w v d : Mat) (kp : Int) : Mat := ⟨w.rows, w.cols, upto (fun k => add (mul (ix v.cells k) kp) (ix d.cells k)) w.cells.length⟩
/-- the new part -/
def stepTo (w v d : Mat) (ln kp : Int) : Mat := ⟨w.rows, w.cols, upto (fun k => sub (ix w.cells k) (mul (add (mul (ix v.cells k) kp) (ix d.cells k)) ln)) w.cells.length⟩
def likeShape (a b : Mat) : Prop := a.rows = b.rows ∧ a.cols = b.cols
instance (a b : Mat) : Decidable (likeShape a b) := by unfold likeShape; exact inferInstance
/-- what is wrong with a layer, its speed and by how much -/
def fitsFault (l : Lay) (v d : Grd) : Int :=
  if l.fault ≠ 0 then l.fault else if v.W.fault ≠ 0 then v.W.fault else if v.B.fault ≠ 0 then v.B.fault else if d.W.fault ≠ 0 then d.W.fault else if d.B.fault ≠ 0 then d.B.fault else
    if likeShape v.W l.W ∧ likeShape v.B l.B ∧ likeShape d.W l.W ∧ likeShape d.B l.B then 0 else 2
theorem fitsFault_ok {l : Lay} {v d : Grd} (h : fitsFault l v d = 0) : l.fault = 0 ∧ v.W.fault = 0 ∧ v.B.fault = 0 ∧ d.W.fault = 0 ∧ d.B.fault = 0 ∧ likeShape v.W l.W ∧ likeShape v.B l.B ∧ likeShape d.W l.W ∧ likeShape d.B l.B := by
  unfold fitsFault at h
  by_cases h1 : l.fault = 0
  · rw [if_neg (by simp [h1])] at h
    by_cases h2 : v.W.fault = 0
    · rw [if_neg (by simp [h2])] at h
      by_cases h3 : v.B.fault = 0
      · rw [if_neg (by simp [h3])] at h
        by_cases h4 : d.W.fault = 0
        · rw [if_neg (by simp [h4])] at h
          by_cases h5 : d.B.fault = 0
          · rw [if_neg (by simp [h5])] at h
            by_cases h6 : likeShape v.W l.W ∧ likeShape v.B l.B ∧ likeShape d.W l.W ∧ likeShape d.B l.B
            · exact ⟨h1, h2, h3, h4, h5, h6⟩
            · rw [if_neg h6] at h; omega
          · rw [if_pos h5] at h; exact absurd h h5
        · rw [if_pos h4] at h; exact absurd h h4
      · rw [if_pos h3] at h; exact absurd h h3
    · rw [if_pos h2] at h; exact absurd h h2
  · rw [if_pos h1] at h; exact absurd h h1
def stepFaultTo (ls : List Lay) (vs ds : List Grd) : Nat → Int
  | 0 => 0
  | k + 1 => if stepFaultTo ls vs ds k = 0 then fitsFault (lx ls k) (gx vs k) (gx ds k) else stepFaultTo ls vs ds k
def stepFault (ls : List Lay) (vs ds : List Grd) (ln kp : Int) : Int :=
  if ln < 0 ∨ 256 < ln ∨ kp < 0 ∨ 256 < kp then 1 else if 12 < ls.length then 3 else if vs.length ≠ ls.length ∨ ds.length ≠ ls.length then 2 else stepFaultTo ls vs ds ls.length
theorem stepFaultTo_succ {ls : List Lay} {vs ds : List Grd} {k : Nat} (h : stepFaultTo ls vs ds k = 0) : stepFaultTo ls vs ds (k + 1) = fitsFault (lx ls k) (gx vs k) (gx ds k) := if_pos h
theorem stepFaultTo_stop {ls : List Lay} {vs ds : List Grd} {k m : Nat} (h : k ≤ m) (hk : stepFaultTo ls vs ds k ≠ 0) : stepFaultTo ls vs ds m = stepFaultTo ls vs ds k := by
  induction m with
  | zero => obtain rfl : k = 0 := by omega
            rfl
  | succ m ih =>
    by_cases hm : k ≤ m
    · have := ih hm
      show (if stepFaultTo ls vs ds m = 0 then _ else stepFaultTo ls vs ds m) = _
      rw [if_neg (by rw [this]; exact hk), this]
    · obtain rfl : k = m + 1 := by omega
      rfl
def stepLay (l : Lay) (v d : Grd) (ln kp : Int) : Lay := ⟨l.kind, stepTo l.W v.W d.W ln kp, stepTo l.B v.B d.B ln kp⟩
def stepGrd (l : Lay) (v d : Grd) (kp : Int) : Grd := ⟨stepSpeed l.W v.W d.W kp, stepSpeed l.B v.B d.B kp⟩
def stepLays (ls : List Lay) (vs ds : List Grd) (ln kp : Int) (k : Nat) : List Lay := (List.range k).map fun i => stepLay (lx ls i) (gx vs i) (gx ds i) ln kp
def stepGrds (ls : List Lay) (vs ds : List Grd) (kp : Int) (k : Nat) : List Grd := (List.range k).map fun i => stepGrd (lx ls i) (gx vs i) (gx ds i) kp
theorem stepLays_length (ls : List Lay) (vs ds : List Grd) (ln kp : Int) (k : Nat) : (stepLays ls vs ds ln kp k).length = k := by simp [stepLays]
theorem stepGrds_length (ls : List Lay) (vs ds : List Grd) (kp : Int) (k : Nat) : (stepGrds ls vs ds kp k).length = k := by simp [stepGrds]
theorem stepLays_succ (ls : List Lay) (vs ds : List Grd) (ln kp : Int) (k : Nat) : stepLays ls vs ds ln kp (k + 1) = stepLays ls vs ds ln kp k ++ [stepLay (lx ls k) (gx vs k) (gx ds k) ln kp] := by simp [stepLays, List.range_succ]
theorem stepGrds_succ (ls : List Lay) (vs ds : List Grd) (kp : Int) (k : Nat) : stepGrds ls vs ds kp (k + 1) = stepGrds ls vs ds kp k ++ [stepGrd (lx ls k) (gx vs k) (gx ds k) kp] := by simp [stepGrds, List.range_succ]
end Gal
