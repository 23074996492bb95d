/- Texts joined: Msgs. -/
import Derived.Test.YtgknjikjjklaiaaDoorJ16
import Derived.Test.YtgknjikjjklaiaaDoorJ19
section
set_option linter.unusedVariables false
set_option linter.unusedSimpArgs false
set_option linter.unusedSectionVars false
set_option maxRecDepth 100000
namespace Go.Proofs.YtgknjikjjklaiaaDoor
open Go.RowKit Gal
set_option maxHeartbeats 4000000
theorem messages_same (m : MsgD) (v v' : Value) (w : World) (h : MsgV w v m) (h' : MsgV w v' m) :
  Calls Tryd.prog 17 #[v, v'] w fun e w' => e = .returned (.bool true) ∧ Below w.heap.size w w' := by
 obtain ⟨a, n, k, b, o, rfl, hm⟩ := h
 obtain ⟨a', n', k', b', o', rfl, hm'⟩ := h'
 have hB0 : Box ((w.alloc (Obj.cells #[.int .i64 m.kind, .int .i64 m.micro, .int .i64 m.body.rows, .int .i64 m.body.cols, .slice a n k] 26)).alloc (Obj.cells #[.int .i64 m.kind, .int .i64 m.micro, .int .i64 m.body.rows, .int .i64 m.body.cols, .slice a' n' k'] 26)) w.heap.size [.int .i64 m.kind, .int .i64 m.micro, .int .i64 m.body.rows, .int .i64 m.body.cols, .slice a n k] 26 := (Box.new' _ _ [.int .i64 m.kind, .int .i64 m.micro, .int .i64 m.body.rows, .int .i64 m.body.cols, .slice a n k] _ rfl).alloc _
 have hB1 : Box ((w.alloc (Obj.cells #[.int .i64 m.kind, .int .i64 m.micro, .int .i64 m.body.rows, .int .i64 m.body.cols, .slice a n k] 26)).alloc (Obj.cells #[.int .i64 m.kind, .int .i64 m.micro, .int .i64 m.body.rows, .int .i64 m.body.cols, .slice a' n' k'] 26)) (w.heap.size + 1) [.int .i64 m.kind, .int .i64 m.micro, .int .i64 m.body.rows, .int .i64 m.body.cols, .slice a' n' k'] 26 := Box.new' _ _ [.int .i64 m.kind, .int .i64 m.micro, .int .i64 m.body.rows, .int .i64 m.body.cols, .slice a' n' k'] _ (by simp)
 have hb0 : Below w.heap.size w ((w.alloc (Obj.cells #[.int .i64 m.kind, .int .i64 m.micro, .int .i64 m.body.rows, .int .i64 m.body.cols, .slice a n k] 26)).alloc (Obj.cells #[.int .i64 m.kind, .int .i64 m.micro, .int .i64 m.body.rows, .int .i64 m.body.cols, .slice a' n' k'] 26)) := Below.x0
 go_enter Tryd.func17, Tryd.ntmps17
 go_wp2_with fail
 refine (matrices_any m.body m.body _ _ _ (MatAt.mk ((hm.alloc _).alloc _)) (MatAt.mk ((hm'.alloc _).alloc _))).mono ?_
 rintro e w1 ⟨rfl, hb1⟩
 rw [decide_eq_true rfl]
 have hC0 := hB0.keep hb1
 have hC1 := hB1.keep hb1
 have c0 := hC0.cell 0
 have c1 := hC0.cell 1
 have d0 := hC1.cell 0
 have d1 := hC1.cell 1
 have e0 : (m.kind == m.kind) = true := by simp
 have e1 : (m.micro == m.micro) = true := by simp
 have hfin : Below w.heap.size w w1 := hb0.trans (hb1.mono hb0.size)
 clear hB0 hB1 hC0 hC1 hb0 hb1 hm hm'
 go_wp2
 go_ret
 exact ⟨rfl, hfin⟩
end Go.Proofs.YtgknjikjjklaiaaDoor
end
