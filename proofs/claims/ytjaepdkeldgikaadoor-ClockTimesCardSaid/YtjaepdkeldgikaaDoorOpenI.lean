/- How a list of integers is opened. -/
import Derived.Test.YtjaepdkeldgikaaDoorOpen
set_option linter.unusedVariables false
set_option linter.unusedSimpArgs false
namespace Go.Proofs.YtjaepdkeldgikaaDoor
open Go.ChangeShapes Go.WideShapes Go.ChangeAt Go.RowKit Go.Joins Gal
/-- a value reads as a list of integers -/
def IntsV (w : World) (v : Value) (xs : List Int) : Prop := ∃ a n k b o, v = .slice a n k ∧ IntsAt w a n k b o xs
set_option maxRecDepth 100000
theorem open_lint {H : Type} {enc : TypeId × Value → H} {w : World} {base b0 : Nat} {r : Reach} {spare : Nat → Bool} {held : Bool} {v : Value} {d : DataW H} {p : List MemPlace}
    (hv : Value.okWide Tryd.prog w r b0 39 v) (h : DataW.Trod enc Tryd.prog w base spare held 39 v d p) : ∃ xs : List Int, IntsV w v xs := by
  obtain ⟨a0, len0, cap0, rfl⟩ := okWide_slice Tryd.underlying39 hv
  obtain ⟨fuel, hy⟩ := h
  obtain ⟨a, n, cap, b, off, xs, e, hr⟩ := open_ints_at (v := .slice a0 len0 cap0) hy
  exact ⟨xs, a, n, cap, b, off, e, hr⟩
end Go.Proofs.YtjaepdkeldgikaaDoor
