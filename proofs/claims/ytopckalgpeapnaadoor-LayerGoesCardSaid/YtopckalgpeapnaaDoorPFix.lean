/- Plain arithmetic of package fix: numbers that end somewhere. No program in sight. -/
set_option linter.unusedVariables false
set_option linter.unusedSimpArgs false
namespace Gal

def top : Int := 2147483647
def clamp (x : Int) : Int := max (-2147483647) (min x 2147483647)
def add (a b : Int) : Int := clamp (clamp a + clamp b)
def sub (a b : Int) : Int := clamp (clamp a - clamp b)
def mul (a b : Int) : Int := clamp (clamp a * clamp b / 256)

theorem clamp_lo (x : Int) : -2147483647 ≤ clamp x := by unfold clamp; omega
theorem clamp_hi (x : Int) : clamp x ≤ 2147483647 := by unfold clamp; omega
theorem clamp_id {x : Int} (h1 : -2147483647 ≤ x) (h2 : x ≤ 2147483647) : clamp x = x := by unfold clamp; omega
theorem clamp_clamp (x : Int) : clamp (clamp x) = clamp x := clamp_id (clamp_lo x) (clamp_hi x)
theorem mul_bd (a b : Int) : -4611686014132420609 ≤ clamp a * clamp b ∧ clamp a * clamp b ≤ 4611686014132420609 := by
  have ha := clamp_lo a; have ha' := clamp_hi a; have hb := clamp_lo b; have hb' := clamp_hi b
  generalize clamp a = x at *; generalize clamp b = y at *
  have hn : (x * y).natAbs ≤ 2147483647 * 2147483647 := by
    rw [Int.natAbs_mul]; exact Nat.mul_le_mul (by omega) (by omega)
  omega
end Gal
