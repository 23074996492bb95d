/- Contracts of package layer: Go. -/
import Derived.Test.YtikcdjibflleeaaDoorLay5
import Derived.Test.YtikcdjibflleeaaDoorUni
set_option linter.unusedVariables false
set_option linter.unusedSimpArgs false
namespace Go.Proofs.YtikcdjibflleeaaDoor
open Go.RowKit Gal
set_option maxRecDepth 100000
set_option maxHeartbeats 2000000
theorem m_run_1 (w : World) : (Go.method 283 128 (.agg #[]) "galley/layer.run").run Tryd.prog w = .ok (99, .agg #[]) w := by kernel_rfl
theorem n_run_1 (w : World) : (Go.nilAhead 283 128 (.agg #[]) "galley/layer.run").run Tryd.prog w = .ok (some false) w := by kernel_rfl
theorem m_run_2 (w : World) : (Go.method 283 131 (.agg #[]) "galley/layer.run").run Tryd.prog w = .ok (110, .agg #[]) w := by kernel_rfl
theorem n_run_2 (w : World) : (Go.nilAhead 283 131 (.agg #[]) "galley/layer.run").run Tryd.prog w = .ok (some false) w := by kernel_rfl
theorem m_run_3 (w : World) : (Go.method 283 132 (.agg #[]) "galley/layer.run").run Tryd.prog w = .ok (116, .agg #[]) w := by kernel_rfl
theorem n_run_3 (w : World) : (Go.nilAhead 283 132 (.agg #[]) "galley/layer.run").run Tryd.prog w = .ok (some false) w := by kernel_rfl
theorem m_run_4 (w : World) : (Go.method 283 133 (.agg #[]) "galley/layer.run").run Tryd.prog w = .ok (120, .agg #[]) w := by kernel_rfl
theorem n_run_4 (w : World) : (Go.nilAhead 283 133 (.agg #[]) "galley/layer.run").run Tryd.prog w = .ok (some false) w := by kernel_rfl

end Go.Proofs.YtikcdjibflleeaaDoor
