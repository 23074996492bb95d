/- Forms of layers and of what they are turned by; how arguments are opened; the cells of a list's element. -/
import Derived.Test.YtgknjikjjklaiaaDoorOpens
import Derived.Test.YtgknjikjjklaiaaDoorLay2
import Derived.Test.YtgknjikjjklaiaaDoorJPlain
set_option linter.unusedVariables false
set_option linter.unusedSimpArgs false
set_option linter.unusedSectionVars false
set_option maxRecDepth 100000
namespace Gal
open Go Go.RowKit Go.ChangeShapes Go.WideShapes Go.Deep
def Form.lay : Form Lay := (Form.int.and (Form.mat.and Form.mat)).as fun x => ⟨x.1, x.2.1, x.2.2⟩
def Form.grd : Form Grd := (Form.mat.and Form.mat).as fun x => ⟨x.1, x.2⟩
end Gal
namespace Go.Proofs.YtgknjikjjklaiaaDoor
open Go.RowKit Gal Go.ChangeShapes Go.WideShapes
theorem lay_reads {w : World} {F : Nat → Prop} {cs : List Value} {l : Lay} (h : Form.lay.reads w F cs l) :
    ∃ a n cap b o a' n' cap' b' o', cs = [.int .i64 l.kind, .int .i64 l.W.rows, .int .i64 l.W.cols, .slice a n cap, .int .i64 l.B.rows, .int .i64 l.B.cols, .slice a' n' cap'] ∧ (0 < n → F b) ∧ IntsAt w a n cap b o l.W.cells ∧ (0 < n' → F b') ∧ IntsAt w a' n' cap' b' o' l.B.cells := by
  obtain ⟨⟨kd, W, B⟩, ⟨c, d, rfl, rfl, c1, d1, rfl, ⟨a, n, cap, b, o, rfl, hF, x0⟩, ⟨a', n', cap', b', o', rfl, hF', x1⟩⟩, rfl⟩ := h
  exact ⟨a, n, cap, b, o, a', n', cap', b', o', rfl, hF, x0, hF', x1⟩
theorem reads_lay {w : World} {F : Nat → Prop} {l : Lay} {a a' : Option Addr} {n n' cap cap' b b' o o' : Nat} (hF : 0 < n → F b) (x0 : IntsAt w a n cap b o l.W.cells) (hF' : 0 < n' → F b') (x1 : IntsAt w a' n' cap' b' o' l.B.cells) :
    Form.lay.reads w F [.int .i64 l.kind, .int .i64 l.W.rows, .int .i64 l.W.cols, .slice a n cap, .int .i64 l.B.rows, .int .i64 l.B.cols, .slice a' n' cap'] l :=
  ⟨(l.kind, l.W, l.B), ⟨_, _, rfl, rfl, _, _, rfl, ⟨a, n, cap, b, o, rfl, hF, x0⟩, ⟨a', n', cap', b', o', rfl, hF', x1⟩⟩, rfl⟩
theorem grd_reads {w : World} {F : Nat → Prop} {cs : List Value} {d : Grd} (h : Form.grd.reads w F cs d) :
    ∃ a n cap b o a' n' cap' b' o', cs = [.int .i64 d.W.rows, .int .i64 d.W.cols, .slice a n cap, .int .i64 d.B.rows, .int .i64 d.B.cols, .slice a' n' cap'] ∧ (0 < n → F b) ∧ IntsAt w a n cap b o d.W.cells ∧ (0 < n' → F b') ∧ IntsAt w a' n' cap' b' o' d.B.cells := by
  obtain ⟨⟨W, B⟩, ⟨c1, d1, rfl, ⟨a, n, cap, b, o, rfl, hF, x0⟩, ⟨a', n', cap', b', o', rfl, hF', x1⟩⟩, rfl⟩ := h
  exact ⟨a, n, cap, b, o, a', n', cap', b', o', rfl, hF, x0, hF', x1⟩
theorem reads_grd {w : World} {F : Nat → Prop} {d : Grd} {a a' : Option Addr} {n n' cap cap' b b' o o' : Nat} (hF : 0 < n → F b) (x0 : IntsAt w a n cap b o d.W.cells) (hF' : 0 < n' → F b') (x1 : IntsAt w a' n' cap' b' o' d.B.cells) :
    Form.grd.reads w F [.int .i64 d.W.rows, .int .i64 d.W.cols, .slice a n cap, .int .i64 d.B.rows, .int .i64 d.B.cols, .slice a' n' cap'] d :=
  ⟨(d.W, d.B), ⟨_, _, rfl, ⟨a, n, cap, b, o, rfl, hF, x0⟩, ⟨a', n', cap', b', o', rfl, hF', x1⟩⟩, rfl⟩
theorem lay_at {w : World} {F : Nat → Prop} {v : Value} {l : Lay} (h : At Form.lay w F v l) : LayAt w v l := by
  obtain ⟨cs, rfl, h⟩ := h
  obtain ⟨a, n, cap, b, o, a', n', cap', b', o', rfl, _, x0, _, x1⟩ := lay_reads h
  exact ⟨a, n, cap, b, o, a', n', cap', b', o', rfl, x0, x1⟩
/-- the cells of a layer in a list, and what they read as -/
theorem lay_cells {w : World} {F : Nat → Prop} {a : Option Addr} {n k b o : Nat} {ls : List Lay} {i : Nat} (h : RowAt Form.lay w F a n k b o ls) (hi : i < n) :
    ∃ a1 n1 k1 b1 o1 a2 n2 k2 b2 o2, w.cell? ⟨b, o + i * 7, none⟩ = some (.int .i64 (lx ls i).kind) ∧ w.cell? ⟨b, o + i * 7 + 1, none⟩ = some (.int .i64 (lx ls i).W.rows) ∧ w.cell? ⟨b, o + i * 7 + 2, none⟩ = some (.int .i64 (lx ls i).W.cols) ∧ w.cell? ⟨b, o + i * 7 + 3, none⟩ = some (.slice a1 n1 k1) ∧
      w.cell? ⟨b, o + i * 7 + 4, none⟩ = some (.int .i64 (lx ls i).B.rows) ∧ w.cell? ⟨b, o + i * 7 + 5, none⟩ = some (.int .i64 (lx ls i).B.cols) ∧ w.cell? ⟨b, o + i * 7 + 6, none⟩ = some (.slice a2 n2 k2) ∧ IntsAt w a1 n1 k1 b1 o1 (lx ls i).W.cells ∧ IntsAt w a2 n2 k2 b2 o2 (lx ls i).B.cells := by
  obtain ⟨cs, hr, hc⟩ := h.cell i _ (lx_get (by rw [h.len]; exact hi))
  obtain ⟨a1, n1, k1, b1, o1, a2, n2, k2, b2, o2, rfl, _, x1, _, x2⟩ := lay_reads hr
  exact ⟨a1, n1, k1, b1, o1, a2, n2, k2, b2, o2, hc 0 (by decide), hc 1 (by decide), hc 2 (by decide), hc 3 (by decide), hc 4 (by decide), hc 5 (by decide), hc 6 (by decide), x1, x2⟩
theorem grd_cells {w : World} {F : Nat → Prop} {a : Option Addr} {n k b o : Nat} {ds : List Grd} {i : Nat} {d : Grd} (h : RowAt Form.grd w F a n k b o ds) (hd : ds[i]? = some d) :
    ∃ a1 n1 k1 b1 o1 a2 n2 k2 b2 o2, w.cell? ⟨b, o + i * 6, none⟩ = some (.int .i64 d.W.rows) ∧ w.cell? ⟨b, o + i * 6 + 1, none⟩ = some (.int .i64 d.W.cols) ∧ w.cell? ⟨b, o + i * 6 + 2, none⟩ = some (.slice a1 n1 k1) ∧
      w.cell? ⟨b, o + i * 6 + 3, none⟩ = some (.int .i64 d.B.rows) ∧ w.cell? ⟨b, o + i * 6 + 4, none⟩ = some (.int .i64 d.B.cols) ∧ w.cell? ⟨b, o + i * 6 + 5, none⟩ = some (.slice a2 n2 k2) ∧ IntsAt w a1 n1 k1 b1 o1 d.W.cells ∧ IntsAt w a2 n2 k2 b2 o2 d.B.cells := by
  obtain ⟨cs, hr, hc⟩ := h.cell i d hd
  obtain ⟨a1, n1, k1, b1, o1, a2, n2, k2, b2, o2, rfl, _, x1, _, x2⟩ := grd_reads hr
  exact ⟨a1, n1, k1, b1, o1, a2, n2, k2, b2, o2, hc 0 (by decide), hc 1 (by decide), hc 2 (by decide), hc 3 (by decide), hc 4 (by decide), hc 5 (by decide), x1, x2⟩
/-- a value reads as what W and B are to be turned by -/
def GrdAt (w : World) (v : Value) (d : Grd) : Prop := ∃ a n cap b o a' n' cap' b' o', v = .agg #[.int .i64 d.W.rows, .int .i64 d.W.cols, .slice a n cap, .int .i64 d.B.rows, .int .i64 d.B.cols, .slice a' n' cap'] ∧ IntsAt w a n cap b o d.W.cells ∧ IntsAt w a' n' cap' b' o' d.B.cells
theorem grd_at {w : World} {F : Nat → Prop} {v : Value} {d : Grd} (h : At Form.grd w F v d) : GrdAt w v d := by
  obtain ⟨cs, rfl, h⟩ := h
  obtain ⟨a, n, cap, b, o, a', n', cap', b', o', rfl, _, x0, _, x1⟩ := grd_reads h
  exact ⟨a, n, cap, b, o, a', n', cap', b', o', rfl, x0, x1⟩
theorem opens_lay : Opens Tryd.prog Form.lay 100 :=
  (Opens.three (f := Form.int) (g := Form.mat) (k := Form.mat) Tryd.underlying100 opens_int opens_mat opens_mat (by kernel_rfl) (by kernel_rfl) (by kernel_rfl) (by kernel_rfl)).as _
theorem open_Layer {H : Type} {enc : TypeId × Value → H} {w : World} {base b0 : Nat} {r : Reach} {spare : Nat → Bool} {held : Bool} {v : Value} {d : DataW H} {p : List MemPlace}
    (hv : Value.okWide Tryd.prog w r b0 100 v) (h : DataW.Trod enc Tryd.prog w base spare held 100 v d p) : ∃ l : Lay, LayAt w v l := by
  obtain ⟨l, hl⟩ := opens_lay.top_struct Tryd.underlying100 hv h
  exact ⟨l, lay_at hl⟩
theorem opens_grd : Opens Tryd.prog Form.grd 102 :=
  (Opens.two (f := Form.mat) (g := Form.mat) Tryd.underlying102 opens_mat opens_mat (by kernel_rfl) (by kernel_rfl) (by kernel_rfl)).as _
end Go.Proofs.YtgknjikjjklaiaaDoor
