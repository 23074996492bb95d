/- Texts joined: ErrV. -/
import Derived.Test.YtgknjikjjklaiaaDoorProg
import Derived.ProofKit
section
set_option linter.unusedVariables false
set_option linter.unusedSimpArgs false
namespace Go.Proofs.YtgknjikjjklaiaaDoor
def errV (k : Int) : Value := if k = 0 then .nilIface else .iface 32 (.int .i64 k)
theorem errV_nil {k : Int} (h : k = 0) : errV k = .nilIface := by unfold errV; rw [if_pos h]
theorem errV_err {k : Int} (h : k ≠ 0) : errV k = .iface 32 (.int .i64 k) := by unfold errV; rw [if_neg h]
end Go.Proofs.YtgknjikjjklaiaaDoor
end
