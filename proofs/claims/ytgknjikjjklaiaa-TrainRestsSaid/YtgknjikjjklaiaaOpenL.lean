/- How a net is opened. -/
import Derived.Test.YtgknjikjjklaiaaForms
set_option linter.unusedVariables false
set_option linter.unusedSimpArgs false
namespace Go.Proofs.Ytgknjikjjklaiaa
open Go.RowKit Gal Go.ChangeShapes Go.WideShapes
set_option maxRecDepth 100000
/-- a value reads as a net -/
def LaysAt (w : World) (v : Value) (ls : List Lay) : Prop := ∃ a n k b o, v = .slice a n k ∧ RowAt Form.lay w anyB a n k b o ls
theorem open_lLayer {H : Type} {enc : TypeId × Value → H} {w : World} {base b0 : Nat} {r : Reach} {spare : Nat → Bool} {held : Bool} {v : Value} {d : DataW H} {p : List MemPlace}
    (hv : Value.okWide Try.prog w r b0 22 v) (h : DataW.Trod enc Try.prog w base spare held 22 v d p) : ∃ ls : List Lay, LaysAt w v ls := by
  obtain ⟨a, n, cap, b, off, xs, e, hr, _⟩ := opens_lay.top_slice Try.underlying22 (by kernel_rfl) (by decide) hv h
  exact ⟨xs, a, n, cap, b, off, e, hr⟩
end Go.Proofs.Ytgknjikjjklaiaa
