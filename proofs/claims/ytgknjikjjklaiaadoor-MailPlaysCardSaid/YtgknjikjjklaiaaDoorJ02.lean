/- Texts joined: BaseP. -/
section

section
set_option linter.unusedVariables false
set_option linter.unusedSimpArgs false
namespace Gal
def clamp (x : Int) : Int := max (-2147483647) (min x 2147483647)
def add (a b : Int) : Int := clamp (clamp a + clamp b)
def mul (a b : Int) : Int := clamp (clamp a * clamp b / 256)
theorem clamp_lo (x : Int) : -2147483647 ≤ clamp x := by unfold clamp; omega
theorem clamp_hi (x : Int) : clamp x ≤ 2147483647 := by unfold clamp; omega
theorem clamp_id {x : Int} (h1 : -2147483647 ≤ x) (h2 : x ≤ 2147483647) : clamp x = x := by unfold clamp; omega
theorem clamp_clamp (x : Int) : clamp (clamp x) = clamp x := clamp_id (clamp_lo x) (clamp_hi x)
end Gal
end
section
set_option linter.unusedVariables false
set_option linter.unusedSimpArgs false
namespace Gal
structure Mat where
 rows : Int
 cols : Int
 cells : List Int
def ix (xs : List Int) (i : Nat) : Int := xs[i]?.getD 0
def inEnds (xs : List Int) : Prop := ∀ j, j < xs.length → clamp (ix xs j) = ix xs j
instance (xs : List Int) : Decidable (inEnds xs) := by unfold inEnds; exact inferInstance
def matFault (r c : Int) (xs : List Int) : Int :=
 if r < 0 ∨ 24 < r ∨ c < 0 ∨ 12 < c then 1 else if (xs.length : Int) ≠ r * c then 2 else if inEnds xs then 0 else 1
def grid (g : Nat → Nat → Int) (C i : Nat) : List Int := (List.range i).flatMap fun i => (List.range C).map (g i)
def sumTo (f : Nat → Int) : Nat → Int
 | 0 => 0
 | n + 1 => add (sumTo f n) (f n)
def mulCell (xs ys : List Int) (ac bc : Nat) (i j : Nat) : Int := sumTo (fun k => mul (ix xs (i * ac + k)) (ix ys (k * bc + j))) ac
def Mat.fault (m : Mat) : Int := matFault m.rows m.cols m.cells
def Mat.none : Mat := ⟨0, 0, []⟩
def mx (ms : List Mat) (i : Nat) : Mat := ms[i]?.getD Mat.none
end Gal
end
section
set_option linter.unusedVariables false
set_option linter.unusedSimpArgs false
namespace Gal
def matMul (a b : Mat) : Mat := ⟨a.rows, b.cols, grid (mulCell a.cells b.cells a.cols.toNat b.cols.toNat) b.cols.toNat a.rows.toNat⟩
def matTurn (a : Mat) : Mat := ⟨a.cols, a.rows, grid (fun i j => ix a.cells (j * a.cols.toNat + i)) a.rows.toNat a.cols.toNat⟩
end Gal
end
section
set_option linter.unusedVariables false
set_option linter.unusedSimpArgs false
namespace Gal
theorem eq_of_ix {xs ys : List Int} (hl : xs.length = ys.length) (h : ∀ j, j < xs.length → ix xs j = ix ys j) : xs = ys := by
 apply List.ext_getElem hl
 intro i h1 h2
 have := h i h1
 unfold ix at this
 rw [List.getElem?_eq_getElem h1, List.getElem?_eq_getElem h2] at this
 simpa using this
theorem mul_one (x : Int) : mul x 256 = clamp x := by
 unfold mul
 have h1 := clamp_lo x
 have h2 := clamp_hi x
 rw [clamp_id (x := 256) (by omega) (by omega), Int.mul_ediv_cancel _ (by omega), clamp_clamp]
theorem add_zero (x : Int) : add x 0 = clamp x := by
 unfold add
 rw [clamp_id (x := 0) (by omega) (by omega), Int.add_zero, clamp_clamp]
theorem zero_add (x : Int) : add 0 x = clamp x := by
 unfold add
 rw [clamp_id (x := 0) (by omega) (by omega), Int.zero_add, clamp_clamp]
end Gal
end
section
set_option linter.unusedVariables false
set_option linter.unusedSimpArgs false
namespace Gal
end Gal
end
section
set_option linter.unusedVariables false
set_option linter.unusedSimpArgs false
namespace Gal
def sameCols (ms : List Mat) : Prop := ∀ j, j < ms.length → (mx ms j).cols = (mx ms 0).cols
instance (ms : List Mat) : Decidable (sameCols ms) := by unfold sameCols; exact inferInstance
end Gal
end
section
set_option linter.unusedVariables false
set_option linter.unusedSimpArgs false
set_option linter.unusedSectionVars false
namespace Gal
section
variable {R K k : Nat} {xs : List Int} (hk : k ≤ R) (hl : xs.length = R * K)
include hk hl
end
end Gal
end
section
set_option linter.unusedVariables false
set_option linter.unusedSimpArgs false
namespace Gal
def upto (f : Nat → Int) (k : Nat) : List Int := (List.range k).map f
end Gal
end
section
set_option linter.unusedVariables false
set_option linter.unusedSimpArgs false
namespace Gal
end Gal
end
section
set_option linter.unusedVariables false
set_option linter.unusedSimpArgs false
namespace Gal
end Gal
end
section
set_option linter.unusedVariables false
set_option linter.unusedSimpArgs false
namespace Gal
end Gal
end
section
set_option linter.unusedVariables false
set_option linter.unusedSimpArgs false
namespace Gal
structure Lay where
 kind : Int
 W : Mat
 B : Mat
def Mat.empty (m : Mat) : Prop := m.rows = 0 ∧ m.cols = 0
instance (m : Mat) : Decidable m.empty := by unfold Mat.empty; exact inferInstance
def Lay.fits (l : Lay) : Prop :=
 (l.kind = 1 ∧ 0 < l.W.rows ∧ 0 < l.W.cols ∧ l.W.rows ≤ 12 ∧ l.B.rows = 1 ∧ l.B.cols = l.W.cols) ∨
 (l.kind = 2 ∧ l.W.empty ∧ l.B.empty) ∨
 (l.kind = 3 ∧ l.W.rows = 1 ∧ l.W.cols = 1 ∧ l.B.empty) ∨
 (l.kind = 4 ∧ l.W.empty ∧ l.B.rows = 1 ∧ 0 < l.B.cols)
instance (l : Lay) : Decidable l.fits := by unfold Lay.fits; exact inferInstance
def Lay.fault (l : Lay) : Int :=
 if l.kind < 1 ∨ 4 < l.kind then 1 else if l.W.fault ≠ 0 then l.W.fault else if l.B.fault ≠ 0 then l.B.fault else if l.fits then 0 else 2
def Lay.takes (l : Lay) (n : Int) : Prop := (l.kind = 1 → n = l.W.rows) ∧ (l.kind = 4 → n = l.B.cols)
instance (l : Lay) (n : Int) : Decidable (l.takes n) := by unfold Lay.takes; exact inferInstance
def Lay.wide (l : Lay) (n : Int) : Int := if l.kind = 1 then l.W.cols else n
def moreCells (xs row : List Int) (K : Nat) : List Int := upto (fun k => add (ix xs k) (ix row (k % K))) xs.length
def Lay.go (l : Lay) (x : Mat) : Mat :=
 if l.kind = 1 then ⟨x.rows, l.W.cols, moreCells (matMul x l.W).cells l.B.cells l.W.cols.toNat⟩
 else if l.kind = 2 then ⟨x.rows, x.cols, upto (fun k => max (ix x.cells k) 0) x.cells.length⟩
 else if l.kind = 3 then ⟨x.rows, x.cols, upto (fun k => mul (ix x.cells k) (ix l.W.cells 0)) x.cells.length⟩
 else ⟨x.rows, x.cols, moreCells x.cells l.B.cells x.cols.toNat⟩
structure Grd where
 W : Mat
 B : Mat
def Grd.none : Grd := ⟨Mat.none, Mat.none⟩
def Lay.back (l : Lay) (x g : Mat) : Mat :=
 if l.kind = 1 then matMul g (matTurn l.W)
 else if l.kind = 2 then ⟨x.rows, x.cols, upto (fun k => if 0 < ix x.cells k then ix g.cells k else 0) x.cells.length⟩
 else if l.kind = 3 then ⟨g.rows, g.cols, upto (fun k => mul (ix g.cells k) (ix l.W.cells 0)) g.cells.length⟩
 else ⟨g.rows, g.cols, upto (ix g.cells) g.cells.length⟩
end Gal
end
section
set_option linter.unusedVariables false
set_option linter.unusedSimpArgs false
namespace Gal
end Gal
end
end
