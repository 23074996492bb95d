/- Texts joined: BaseP. -/
section

section
set_option linter.unusedVariables false
set_option linter.unusedSimpArgs false
namespace Gal
def clamp (x : Int) : Int := max (-2147483647) (min x 2147483647)
def add (a b : Int) : Int := clamp (clamp a + clamp b)
def mul (a b : Int) : Int := clamp (clamp a * clamp b / 256)
theorem clamp_lo (x : Int) : -2147483647 ≤ clamp x := by unfold clamp; omega
theorem clamp_hi (x : Int) : clamp x ≤ 2147483647 := by unfold clamp; omega
theorem clamp_id {x : Int} (h1 : -2147483647 ≤ x) (h2 : x ≤ 2147483647) : clamp x = x := by unfold clamp; omega
theorem clamp_clamp (x : Int) : clamp (clamp x) = clamp x := clamp_id (clamp_lo x) (clamp_hi x)
theorem mul_bd (a b : Int) : -4611686014132420609 ≤ clamp a * clamp b ∧ clamp a * clamp b ≤ 4611686014132420609 := by
 have ha := clamp_lo a; have ha' := clamp_hi a; have hb := clamp_lo b; have hb' := clamp_hi b
 generalize clamp a = x at *; generalize clamp b = y at *
 have hn : (x * y).natAbs ≤ 2147483647 * 2147483647 := by
  rw [Int.natAbs_mul]; exact Nat.mul_le_mul (by omega) (by omega)
 omega
end Gal
end
section
set_option linter.unusedVariables false
set_option linter.unusedSimpArgs false
namespace Gal
structure Mat where
 rows : Int
 cols : Int
 cells : List Int
def ix (xs : List Int) (i : Nat) : Int := xs[i]?.getD 0
def inEnds (xs : List Int) : Prop := ∀ j, j < xs.length → clamp (ix xs j) = ix xs j
instance (xs : List Int) : Decidable (inEnds xs) := by unfold inEnds; exact inferInstance
def grid (g : Nat → Nat → Int) (C i : Nat) : List Int := (List.range i).flatMap fun i => (List.range C).map (g i)
def sumTo (f : Nat → Int) : Nat → Int
 | 0 => 0
 | n + 1 => add (sumTo f n) (f n)
def mulCell (xs ys : List Int) (ac bc : Nat) (i j : Nat) : Int := sumTo (fun k => mul (ix xs (i * ac + k)) (ix ys (k * bc + j))) ac
def Mat.none : Mat := ⟨0, 0, []⟩
def mx (ms : List Mat) (i : Nat) : Mat := ms[i]?.getD Mat.none
end Gal
end
section
set_option linter.unusedVariables false
set_option linter.unusedSimpArgs false
namespace Gal
def matMul (a b : Mat) : Mat := ⟨a.rows, b.cols, grid (mulCell a.cells b.cells a.cols.toNat b.cols.toNat) b.cols.toNat a.rows.toNat⟩
end Gal
end
section
set_option linter.unusedVariables false
set_option linter.unusedSimpArgs false
namespace Gal
theorem zero_add (x : Int) : add 0 x = clamp x := by
 unfold add
 rw [clamp_id (x := 0) (by omega) (by omega), Int.zero_add, clamp_clamp]
end Gal
end
section
set_option linter.unusedVariables false
set_option linter.unusedSimpArgs false
namespace Gal
end Gal
end
section
set_option linter.unusedVariables false
set_option linter.unusedSimpArgs false
namespace Gal
def sameCols (ms : List Mat) : Prop := ∀ j, j < ms.length → (mx ms j).cols = (mx ms 0).cols
instance (ms : List Mat) : Decidable (sameCols ms) := by unfold sameCols; exact inferInstance
end Gal
end
section
set_option linter.unusedVariables false
set_option linter.unusedSimpArgs false
set_option linter.unusedSectionVars false
namespace Gal
section
variable {R K k : Nat} {xs : List Int} (hk : k ≤ R) (hl : xs.length = R * K)
include hk hl
end
end Gal
end
section
set_option linter.unusedVariables false
set_option linter.unusedSimpArgs false
namespace Gal
def upto (f : Nat → Int) (k : Nat) : List Int := (List.range k).map f
end Gal
end
section
set_option linter.unusedVariables false
set_option linter.unusedSimpArgs false
namespace Gal
end Gal
end
section
set_option linter.unusedVariables false
set_option linter.unusedSimpArgs false
namespace Gal
end Gal
end
section
set_option linter.unusedVariables false
set_option linter.unusedSimpArgs false
namespace Gal
end Gal
end
section
set_option linter.unusedVariables false
set_option linter.unusedSimpArgs false
namespace Gal
structure Lay where
 kind : Int
 W : Mat
 B : Mat
def Mat.empty (m : Mat) : Prop := m.rows = 0 ∧ m.cols = 0
instance (m : Mat) : Decidable m.empty := by unfold Mat.empty; exact inferInstance
def Lay.fits (l : Lay) : Prop :=
 (l.kind = 1 ∧ 0 < l.W.rows ∧ 0 < l.W.cols ∧ l.W.rows ≤ 12 ∧ l.B.rows = 1 ∧ l.B.cols = l.W.cols) ∨
 (l.kind = 2 ∧ l.W.empty ∧ l.B.empty) ∨
 (l.kind = 3 ∧ l.W.rows = 1 ∧ l.W.cols = 1 ∧ l.B.empty) ∨
 (l.kind = 4 ∧ l.W.empty ∧ l.B.rows = 1 ∧ 0 < l.B.cols)
instance (l : Lay) : Decidable l.fits := by unfold Lay.fits; exact inferInstance
def Lay.takes (l : Lay) (n : Int) : Prop := (l.kind = 1 → n = l.W.rows) ∧ (l.kind = 4 → n = l.B.cols)
instance (l : Lay) (n : Int) : Decidable (l.takes n) := by unfold Lay.takes; exact inferInstance
def Lay.wide (l : Lay) (n : Int) : Int := if l.kind = 1 then l.W.cols else n
def moreCells (xs row : List Int) (K : Nat) : List Int := upto (fun k => add (ix xs k) (ix row (k % K))) xs.length
def Lay.go (l : Lay) (x : Mat) : Mat :=
 if l.kind = 1 then ⟨x.rows, l.W.cols, moreCells (matMul x l.W).cells l.B.cells l.W.cols.toNat⟩
 else if l.kind = 2 then ⟨x.rows, x.cols, upto (fun k => max (ix x.cells k) 0) x.cells.length⟩
 else if l.kind = 3 then ⟨x.rows, x.cols, upto (fun k => mul (ix x.cells k) (ix l.W.cells 0)) x.cells.length⟩
 else ⟨x.rows, x.cols, moreCells x.cells l.B.cells x.cols.toNat⟩
structure Grd where
 W : Mat
 B : Mat
def Grd.none : Grd := ⟨Mat.none, Mat.none⟩
end Gal
end
section
set_option linter.unusedVariables false
set_option linter.unusedSimpArgs false
namespace Gal
end Gal
end
end
