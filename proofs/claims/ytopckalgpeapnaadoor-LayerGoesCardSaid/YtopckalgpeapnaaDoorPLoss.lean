/- Plain: how far a matrix is off another one. No program in sight. -/
import Derived.Test.YtopckalgpeapnaaDoorPTurn
set_option linter.unusedVariables false
set_option linter.unusedSimpArgs false
namespace Gal
def upto (f : Nat → Int) (k : Nat) : List Int := (List.range k).map f
theorem upto_succ (f : Nat → Int) (k : Nat) : upto f (k + 1) = upto f k ++ [f k] := by simp [upto, List.range_succ]
theorem upto_length (f : Nat → Int) (k : Nat) : (upto f k).length = k := by simp [upto]
theorem upto_ix {f : Nat → Int} {k i : Nat} (h : i < k) : ix (upto f k) i = f i := by simp [ix, upto, h]
/-- how far each cell is off -/
def offs (xs ys : List Int) (n : Nat) : List Int := upto (fun k => sub (ix xs k) (ix ys k)) n
/-- the squares, summed up in order -/
def sqSum (l : List Int) : Int := l.foldl (fun s d => add s (mul d d)) 0
theorem sqSum_snoc (l : List Int) (d : Int) : sqSum (l ++ [d]) = add (sqSum l) (mul d d) := by simp [sqSum]
def lossFault (a b : Mat) : Int := if firstFault [a, b] = 0 then (if a.rows = b.rows ∧ a.cols = b.cols then 0 else 2) else firstFault [a, b]
def lossOf (a b : Mat) : Int := mul (sqSum (offs a.cells b.cells a.cells.length)) 128
def lossBack (a b : Mat) : Mat := ⟨a.rows, a.cols, offs a.cells b.cells a.cells.length⟩
theorem lossFault_ok {a b : Mat} (h : lossFault a b = 0) : a.fault = 0 ∧ b.fault = 0 ∧ a.rows = b.rows ∧ a.cols = b.cols := by
  unfold lossFault at h
  by_cases h1 : firstFault [a, b] = 0
  · rw [if_pos h1] at h
    obtain ⟨h2, h3⟩ := firstFault_two.1 h1
    by_cases h4 : a.rows = b.rows ∧ a.cols = b.cols
    · exact ⟨h2, h3, h4.1, h4.2⟩
    · rw [if_neg h4] at h; omega
  · rw [if_neg h1] at h; exact absurd h h1
theorem lossFault_zero {a b : Mat} (ha : a.fault = 0) (hb : b.fault = 0) (hr : a.rows = b.rows) (hc : a.cols = b.cols) : lossFault a b = 0 := by
  unfold lossFault
  rw [if_pos (firstFault_two.2 ⟨ha, hb⟩), if_pos ⟨hr, hc⟩]
end Gal
