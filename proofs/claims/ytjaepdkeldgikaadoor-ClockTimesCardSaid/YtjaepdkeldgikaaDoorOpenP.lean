/- How a plan is opened. -/
import Derived.Test.YtjaepdkeldgikaaDoorOpens
import Derived.Test.YtjaepdkeldgikaaDoorPlan3
set_option linter.unusedVariables false
set_option linter.unusedSimpArgs false
namespace Go.Proofs.YtjaepdkeldgikaaDoor
open Go.RowKit Gal Go.ChangeShapes Go.WideShapes
set_option maxRecDepth 100000
/-- a value reads as a plan -/
def PlanV (w : World) (v : Value) (p : PlanD) : Prop := ∃ a n k b o, v = .slice a n k ∧ RowAt Form.plan w anyB a n k b o p
theorem opens_act : Opens Tryd.prog Form.act 73 := Opens.two Tryd.underlying73 opens_int opens_int (by kernel_rfl) (by kernel_rfl) (by kernel_rfl)
theorem opens_acts : Opens Tryd.prog Form.plan 43 := Opens.slice opens_act Tryd.underlying43 (by kernel_rfl) (by decide)
theorem open_llAct {H : Type} {enc : TypeId × Value → H} {w : World} {base b0 : Nat} {r : Reach} {spare : Nat → Bool} {held : Bool} {v : Value} {d : DataW H} {p : List MemPlace}
    (hv : Value.okWide Tryd.prog w r b0 22 v) (h : DataW.Trod enc Tryd.prog w base spare held 22 v d p) : ∃ ls : PlanD, PlanV w v ls := by
  obtain ⟨a, n, cap, b, off, xs, e, hr, _⟩ := opens_acts.top_slice Tryd.underlying22 (by kernel_rfl) (by decide) hv h
  exact ⟨xs, a, n, cap, b, off, e, hr⟩
end Go.Proofs.YtjaepdkeldgikaaDoor
