/- Forms of layers and of what they are turned by; how the laws' arguments are opened. -/
import Derived.Test.YtikcdjibflleeaaOpens
import Derived.Test.YtikcdjibflleeaaJLay
set_option linter.unusedVariables false
set_option linter.unusedSimpArgs false
set_option linter.unusedSectionVars false
set_option maxRecDepth 100000
namespace Gal
open Go Go.RowKit Go.ChangeShapes Go.WideShapes Go.Deep
def Form.lay : Form Lay := (Form.int.and (Form.mat.and Form.mat)).as fun x => ⟨x.1, x.2.1, x.2.2⟩
def Form.grd : Form Grd := (Form.mat.and Form.mat).as fun x => ⟨x.1, x.2⟩
end Gal
namespace Go.Proofs.Ytikcdjibflleeaa
open Go.RowKit Gal Go.ChangeShapes Go.WideShapes
theorem lay_reads {w : World} {F : Nat → Prop} {cs : List Value} {l : Lay} (h : Form.lay.reads w F cs l) :
    ∃ a n cap b o a' n' cap' b' o', cs = [.int .i64 l.kind, .int .i64 l.W.rows, .int .i64 l.W.cols, .slice a n cap, .int .i64 l.B.rows, .int .i64 l.B.cols, .slice a' n' cap'] ∧ (0 < n → F b) ∧ IntsAt w a n cap b o l.W.cells ∧ (0 < n' → F b') ∧ IntsAt w a' n' cap' b' o' l.B.cells := by
  obtain ⟨⟨kd, W, B⟩, ⟨c, d, rfl, rfl, c1, d1, rfl, ⟨a, n, cap, b, o, rfl, hF, x0⟩, ⟨a', n', cap', b', o', rfl, hF', x1⟩⟩, rfl⟩ := h
  exact ⟨a, n, cap, b, o, a', n', cap', b', o', rfl, hF, x0, hF', x1⟩
theorem reads_lay {w : World} {F : Nat → Prop} {l : Lay} {a a' : Option Addr} {n n' cap cap' b b' o o' : Nat} (hF : 0 < n → F b) (x0 : IntsAt w a n cap b o l.W.cells) (hF' : 0 < n' → F b') (x1 : IntsAt w a' n' cap' b' o' l.B.cells) :
    Form.lay.reads w F [.int .i64 l.kind, .int .i64 l.W.rows, .int .i64 l.W.cols, .slice a n cap, .int .i64 l.B.rows, .int .i64 l.B.cols, .slice a' n' cap'] l :=
  ⟨(l.kind, l.W, l.B), ⟨_, _, rfl, rfl, _, _, rfl, ⟨a, n, cap, b, o, rfl, hF, x0⟩, ⟨a', n', cap', b', o', rfl, hF', x1⟩⟩, rfl⟩
theorem grd_reads {w : World} {F : Nat → Prop} {cs : List Value} {d : Grd} (h : Form.grd.reads w F cs d) :
    ∃ a n cap b o a' n' cap' b' o', cs = [.int .i64 d.W.rows, .int .i64 d.W.cols, .slice a n cap, .int .i64 d.B.rows, .int .i64 d.B.cols, .slice a' n' cap'] ∧ (0 < n → F b) ∧ IntsAt w a n cap b o d.W.cells ∧ (0 < n' → F b') ∧ IntsAt w a' n' cap' b' o' d.B.cells := by
  obtain ⟨⟨W, B⟩, ⟨c1, d1, rfl, ⟨a, n, cap, b, o, rfl, hF, x0⟩, ⟨a', n', cap', b', o', rfl, hF', x1⟩⟩, rfl⟩ := h
  exact ⟨a, n, cap, b, o, a', n', cap', b', o', rfl, hF, x0, hF', x1⟩
theorem reads_grd {w : World} {F : Nat → Prop} {d : Grd} {a a' : Option Addr} {n n' cap cap' b b' o o' : Nat} (hF : 0 < n → F b) (x0 : IntsAt w a n cap b o d.W.cells) (hF' : 0 < n' → F b') (x1 : IntsAt w a' n' cap' b' o' d.B.cells) :
    Form.grd.reads w F [.int .i64 d.W.rows, .int .i64 d.W.cols, .slice a n cap, .int .i64 d.B.rows, .int .i64 d.B.cols, .slice a' n' cap'] d :=
  ⟨(d.W, d.B), ⟨_, _, rfl, ⟨a, n, cap, b, o, rfl, hF, x0⟩, ⟨a', n', cap', b', o', rfl, hF', x1⟩⟩, rfl⟩
theorem lay_at {w : World} {F : Nat → Prop} {v : Value} {l : Lay} (h : At Form.lay w F v l) : LayAt w v l := by
  obtain ⟨cs, rfl, h⟩ := h
  obtain ⟨a, n, cap, b, o, a', n', cap', b', o', rfl, _, x0, _, x1⟩ := lay_reads h
  exact ⟨a, n, cap, b, o, a', n', cap', b', o', rfl, x0, x1⟩
/-- a value reads as what W and B are to be turned by -/
def GrdAt (w : World) (v : Value) (d : Grd) : Prop := ∃ a n cap b o a' n' cap' b' o', v = .agg #[.int .i64 d.W.rows, .int .i64 d.W.cols, .slice a n cap, .int .i64 d.B.rows, .int .i64 d.B.cols, .slice a' n' cap'] ∧ IntsAt w a n cap b o d.W.cells ∧ IntsAt w a' n' cap' b' o' d.B.cells
theorem grd_at {w : World} {F : Nat → Prop} {v : Value} {d : Grd} (h : At Form.grd w F v d) : GrdAt w v d := by
  obtain ⟨cs, rfl, h⟩ := h
  obtain ⟨a, n, cap, b, o, a', n', cap', b', o', rfl, _, x0, _, x1⟩ := grd_reads h
  exact ⟨a, n, cap, b, o, a', n', cap', b', o', rfl, x0, x1⟩
theorem opens_lay : Opens Try.prog Form.lay 30 :=
  (Opens.three (f := Form.int) (g := Form.mat) (k := Form.mat) Try.underlying30 opens_int opens_mat opens_mat (by kernel_rfl) (by kernel_rfl) (by kernel_rfl) (by kernel_rfl)).as _
theorem open_Layer {H : Type} {enc : TypeId × Value → H} {w : World} {base b0 : Nat} {r : Reach} {spare : Nat → Bool} {held : Bool} {v : Value} {d : DataW H} {p : List MemPlace}
    (hv : Value.okWide Try.prog w r b0 30 v) (h : DataW.Trod enc Try.prog w base spare held 30 v d p) : ∃ l : Lay, LayAt w v l := by
  obtain ⟨l, hl⟩ := opens_lay.top_struct Try.underlying30 hv h
  exact ⟨l, lay_at hl⟩
theorem opens_grd : Opens Try.prog Form.grd 32 :=
  (Opens.two (f := Form.mat) (g := Form.mat) Try.underlying32 opens_mat opens_mat (by kernel_rfl) (by kernel_rfl) (by kernel_rfl)).as _
end Go.Proofs.Ytikcdjibflleeaa
