/- Plain layers: what the document's chapter 3 says. No program in sight. -/
import Derived.Test.YtopckalgpeapnaaDoorPRef
set_option linter.unusedVariables false
set_option linter.unusedSimpArgs false
namespace Gal
structure Lay where
  kind : Int
  W : Mat
  B : Mat
def Mat.empty (m : Mat) : Prop := m.rows = 0 ∧ m.cols = 0
instance (m : Mat) : Decidable m.empty := by unfold Mat.empty; exact inferInstance
/-- do the sizes of W and B go with the kind? -/
def Lay.fits (l : Lay) : Prop :=
  (l.kind = 1 ∧ 0 < l.W.rows ∧ 0 < l.W.cols ∧ l.W.rows ≤ 12 ∧ l.B.rows = 1 ∧ l.B.cols = l.W.cols) ∨
  (l.kind = 2 ∧ l.W.empty ∧ l.B.empty) ∨
  (l.kind = 3 ∧ l.W.rows = 1 ∧ l.W.cols = 1 ∧ l.B.empty) ∨
  (l.kind = 4 ∧ l.W.empty ∧ l.B.rows = 1 ∧ 0 < l.B.cols)
instance (l : Lay) : Decidable l.fits := by unfold Lay.fits; exact inferInstance
def Lay.fault (l : Lay) : Int :=
  if l.kind < 1 ∨ 4 < l.kind then 1 else if l.W.fault ≠ 0 then l.W.fault else if l.B.fault ≠ 0 then l.B.fault else if l.fits then 0 else 2
theorem Lay.fault_ok {l : Lay} (h : l.fault = 0) : 1 ≤ l.kind ∧ l.kind ≤ 4 ∧ l.W.fault = 0 ∧ l.B.fault = 0 ∧ l.fits := by
  unfold Lay.fault at h
  by_cases h1 : l.kind < 1 ∨ 4 < l.kind
  · rw [if_pos h1] at h; omega
  · rw [if_neg h1] at h
    by_cases h2 : l.W.fault = 0
    · rw [if_neg (by simp [h2])] at h
      by_cases h3 : l.B.fault = 0
      · rw [if_neg (by simp [h3])] at h
        by_cases h4 : l.fits
        · exact ⟨by omega, by omega, h2, h3, h4⟩
        · rw [if_neg h4] at h; omega
      · rw [if_pos h3] at h; exact absurd h h3
    · rw [if_pos h2] at h; exact absurd h h2
/-- how many columns come of so many; none if they do not fit -/
def Lay.takes (l : Lay) (n : Int) : Prop := (l.kind = 1 → n = l.W.rows) ∧ (l.kind = 4 → n = l.B.cols)
instance (l : Lay) (n : Int) : Decidable (l.takes n) := by unfold Lay.takes; exact inferInstance
def Lay.wide (l : Lay) (n : Int) : Int := if l.kind = 1 then l.W.cols else n
def Lay.wideFault (l : Lay) (n : Int) : Int := if l.fault ≠ 0 then l.fault else if n < 0 ∨ 12 < n then 1 else if l.takes n then 0 else 2
def Lay.goFault (l : Lay) (x : Mat) : Int := if l.fault ≠ 0 then l.fault else if x.fault ≠ 0 then x.fault else if l.takes x.cols then 0 else 2
/-- a row added to each -/
def moreCells (xs row : List Int) (K : Nat) : List Int := upto (fun k => add (ix xs k) (ix row (k % K))) xs.length
def Lay.go (l : Lay) (x : Mat) : Mat :=
  if l.kind = 1 then ⟨x.rows, l.W.cols, moreCells (matMul x l.W).cells l.B.cells l.W.cols.toNat⟩
  else if l.kind = 2 then ⟨x.rows, x.cols, upto (fun k => max (ix x.cells k) 0) x.cells.length⟩
  else if l.kind = 3 then ⟨x.rows, x.cols, upto (fun k => mul (ix x.cells k) (ix l.W.cells 0)) x.cells.length⟩
  else ⟨x.rows, x.cols, moreCells x.cells l.B.cells x.cols.toNat⟩
def Lay.backFault (l : Lay) (x g : Mat) : Int :=
  if l.goFault x ≠ 0 then l.goFault x else if g.fault ≠ 0 then g.fault else if g.rows ≠ x.rows ∨ g.cols ≠ l.wide x.cols then 2 else if l.kind = 1 ∧ 12 < x.rows then 1 else 0
/-- by how much W and B are to be turned -/
structure Grd where
  W : Mat
  B : Mat
def Grd.none : Grd := ⟨Mat.none, Mat.none⟩
def dotTo (xs gs : List Int) : Nat → Int := sumTo fun k => mul (ix xs k) (ix gs k)
def Lay.back (l : Lay) (x g : Mat) : Mat :=
  if l.kind = 1 then matMul g (matTurn l.W)
  else if l.kind = 2 then ⟨x.rows, x.cols, upto (fun k => if 0 < ix x.cells k then ix g.cells k else 0) x.cells.length⟩
  else if l.kind = 3 then ⟨g.rows, g.cols, upto (fun k => mul (ix g.cells k) (ix l.W.cells 0)) g.cells.length⟩
  else ⟨g.rows, g.cols, upto (ix g.cells) g.cells.length⟩
def Lay.grad (l : Lay) (x g : Mat) : Grd :=
  if l.kind = 1 then ⟨matMul (matTurn x) g, matSums g⟩
  else if l.kind = 2 then Grd.none
  else if l.kind = 3 then ⟨⟨1, 1, [dotTo x.cells g.cells x.cells.length]⟩, Mat.none⟩
  else ⟨Mat.none, matSums g⟩
theorem Lay.wideFault_ok {l : Lay} {n : Int} (h : l.wideFault n = 0) : l.fault = 0 ∧ 0 ≤ n ∧ n ≤ 12 ∧ l.takes n := by
  unfold Lay.wideFault at h
  by_cases h1 : l.fault = 0
  · rw [if_neg (by simp [h1])] at h
    by_cases h2 : n < 0 ∨ 12 < n
    · rw [if_pos h2] at h; omega
    · rw [if_neg h2] at h
      by_cases h3 : l.takes n
      · exact ⟨h1, by omega, by omega, h3⟩
      · rw [if_neg h3] at h; omega
  · rw [if_pos h1] at h; exact absurd h h1
theorem Lay.goFault_ok {l : Lay} {x : Mat} (h : l.goFault x = 0) : l.fault = 0 ∧ x.fault = 0 ∧ l.takes x.cols := by
  unfold Lay.goFault at h
  by_cases h1 : l.fault = 0
  · rw [if_neg (by simp [h1])] at h
    by_cases h2 : x.fault = 0
    · rw [if_neg (by simp [h2])] at h
      by_cases h3 : l.takes x.cols
      · exact ⟨h1, h2, h3⟩
      · rw [if_neg h3] at h; omega
    · rw [if_pos h2] at h; exact absurd h h2
  · rw [if_pos h1] at h; exact absurd h h1
theorem Lay.backFault_ok {l : Lay} {x g : Mat} (h : l.backFault x g = 0) : l.goFault x = 0 ∧ g.fault = 0 ∧ g.rows = x.rows ∧ g.cols = l.wide x.cols ∧ (l.kind = 1 → x.rows ≤ 12) := by
  unfold Lay.backFault at h
  by_cases h1 : l.goFault x = 0
  · rw [if_neg (by simp [h1])] at h
    by_cases h2 : g.fault = 0
    · rw [if_neg (by simp [h2])] at h
      by_cases h3 : g.rows ≠ x.rows ∨ g.cols ≠ l.wide x.cols
      · rw [if_pos h3] at h; omega
      · rw [if_neg h3] at h
        by_cases h4 : l.kind = 1 ∧ 12 < x.rows
        · rw [if_pos h4] at h; omega
        · refine ⟨h1, h2, ?_, ?_, fun hk => ?_⟩ <;> omega
    · rw [if_pos h2] at h; exact absurd h h2
  · rw [if_pos h1] at h; exact absurd h h1
/-- the goFault by the wideFault: of a matrix without a fault its columns are between 0 and 12 -/
theorem Lay.goFault_wide {l : Lay} {x : Mat} (hx : x.fault = 0) : l.goFault x = l.wideFault x.cols := by
  obtain ⟨R, K, _, eK, _, hK, _, _⟩ := matFault_ok hx
  unfold Lay.goFault Lay.wideFault
  by_cases h1 : l.fault = 0
  · have n1 : ¬ l.fault ≠ 0 := fun h => h h1
    have n2 : ¬ x.fault ≠ 0 := fun h => h hx
    have n3 : ¬ (x.cols < 0 ∨ 12 < x.cols) := by omega
    simp only [if_neg n1, if_neg n2, if_neg n3]
  · simp only [if_pos h1]
/-- a number where there is no fault, else 0 -/
def okOr (f x : Int) : Int := if f = 0 then x else 0
theorem okOr_ok {f x : Int} (h : f = 0) : okOr f x = x := if_pos h
theorem okOr_bad {f x : Int} (h : f ≠ 0) : okOr f x = 0 := if_neg h
theorem moreCells_length (xs row : List Int) (K : Nat) : (moreCells xs row K).length = xs.length := upto_length _ _
end Gal
