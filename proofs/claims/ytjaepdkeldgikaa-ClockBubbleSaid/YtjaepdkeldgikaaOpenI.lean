/- How a list of integers is opened. -/
import Derived.Test.YtjaepdkeldgikaaOpen
set_option linter.unusedVariables false
set_option linter.unusedSimpArgs false
namespace Go.Proofs.Ytjaepdkeldgikaa
open Go.ChangeShapes Go.WideShapes Go.ChangeAt Go.RowKit Go.Joins Gal
/-- a value reads as a list of integers -/
def IntsV (w : World) (v : Value) (xs : List Int) : Prop := ∃ a n k b o, v = .slice a n k ∧ IntsAt w a n k b o xs
set_option maxRecDepth 100000
theorem open_lint {H : Type} {enc : TypeId × Value → H} {w : World} {base b0 : Nat} {r : Reach} {spare : Nat → Bool} {held : Bool} {v : Value} {d : DataW H} {p : List MemPlace}
    (hv : Value.okWide Try.prog w r b0 37 v) (h : DataW.Trod enc Try.prog w base spare held 37 v d p) : ∃ xs : List Int, IntsV w v xs := by
  obtain ⟨a0, len0, cap0, rfl⟩ := okWide_slice Try.underlying37 hv
  obtain ⟨fuel, hy⟩ := h
  obtain ⟨a, n, cap, b, off, xs, e, hr⟩ := open_ints_at (v := .slice a0 len0 cap0) hy
  exact ⟨xs, a, n, cap, b, off, e, hr⟩
end Go.Proofs.Ytjaepdkeldgikaa
