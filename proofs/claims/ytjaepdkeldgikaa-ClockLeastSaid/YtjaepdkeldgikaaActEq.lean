/- Two acts: are they the same? -/
import Derived.Test.YtjaepdkeldgikaaPlan1
import Derived.Laws.StructEq
set_option linter.unusedVariables false
set_option linter.unusedSimpArgs false
namespace Go.Proofs.Ytjaepdkeldgikaa
open Go.RowKit Gal
set_option maxRecDepth 100000
theorem act_eqls (x0 x1 y0 y1 : Int) (W : World) : (binOp .eql 31 (.agg #[.int .i64 x0, .int .i64 x1]) (.agg #[.int .i64 y0, .int .i64 y1])).run Try.prog W = .ok (.bool (x0 == y0 && x1 == y1)) W := by
  rw [run_eql_struct, run_equalIn_agg W _ _ _ _ (by kernel_rfl) (by kernel_rfl)]
  simp only [Program.fieldsOf, Try.underlying31]
  have hi := Try.underlying3
  have c0 : Try.prog.cellsOf 3 = 1 := by kernel_rfl
  by_cases h0 : x0 = y0 <;> by_cases h1 : x1 = y1 <;> simp [go_sem, Op.eqFields, hi, part, c0, h0, h1]
end Go.Proofs.Ytjaepdkeldgikaa
