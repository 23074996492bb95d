/- Texts joined: OpenM. -/
import Derived.Test.YtgknjikjjklaiaaDoorJ12
import Derived.Test.YtgknjikjjklaiaaDoorJ14
import Derived.Test.YtgknjikjjklaiaaDoorJ15
section
set_option linter.unusedVariables false
set_option linter.unusedSimpArgs false
set_option linter.unusedSectionVars false
namespace Gal
open Go Go.RowKit
def Form.msg : Form MsgD := (Form.int.and (Form.int.and Form.mat)).as fun x => ⟨x.1, x.2.1, x.2.2⟩
def MsgV (w : World) (v : Value) (m : MsgD) : Prop := ∃ a n k b o, v = .agg #[.int .i64 m.kind, .int .i64 m.micro, .int .i64 m.body.rows, .int .i64 m.body.cols, .slice a n k] ∧ IntsAt w a n k b o m.body.cells
theorem msg_reads {w : World} {F : Nat → Prop} {cs : List Value} {m : MsgD} (h : Form.msg.reads w F cs m) : ∃ a n k b o, cs = [.int .i64 m.kind, .int .i64 m.micro, .int .i64 m.body.rows, .int .i64 m.body.cols, .slice a n k] ∧ (0 < n → F b) ∧ IntsAt w a n k b o m.body.cells := by
 obtain ⟨⟨k, mi, b⟩, ⟨c0, c1, rfl, h0, c2, c3, rfl, h1, a, n, cap, bl, off, h2, hF, h3⟩, rfl⟩ := h
 simp only at h0 h1 h2
 rw [h0, h1, h2]
 exact ⟨a, n, cap, bl, off, rfl, hF, h3⟩
theorem At.msg {w : World} {F : Nat → Prop} {v : Value} {m : MsgD} (h : At Form.msg w F v m) : MsgV w v m := by
 obtain ⟨cs, rfl, h⟩ := h
 obtain ⟨a, n, k, b, o, rfl, _, h3⟩ := msg_reads h
 exact ⟨a, n, k, b, o, rfl, h3⟩
end Gal
namespace Go.Proofs.YtgknjikjjklaiaaDoor
open Go.RowKit Gal Go.ChangeShapes Go.WideShapes
set_option maxRecDepth 100000
end Go.Proofs.YtgknjikjjklaiaaDoor
end
