/- How an error reads as a value. -/
import Derived.Test.YtchngeagnlngaaaDoorProg
import Derived.ProofKit
set_option linter.unusedVariables false
set_option linter.unusedSimpArgs false
namespace Go.Proofs.YtchngeagnlngaaaDoor
/-- an error as a value -/
def errV (k : Int) : Value := if k = 0 then .nilIface else .iface 30 (.int .i64 k)
theorem errV_nil {k : Int} (h : k = 0) : errV k = .nilIface := by unfold errV; rw [if_pos h]
theorem errV_err {k : Int} (h : k ≠ 0) : errV k = .iface 30 (.int .i64 k) := by unfold errV; rw [if_neg h]
end Go.Proofs.YtchngeagnlngaaaDoor
