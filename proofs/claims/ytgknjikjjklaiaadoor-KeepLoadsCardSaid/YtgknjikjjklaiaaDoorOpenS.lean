/- How a state is opened. -/
import Derived.Test.YtgknjikjjklaiaaDoorFormsG
import Derived.Test.YtgknjikjjklaiaaDoorJPlain
set_option linter.unusedVariables false
set_option linter.unusedSimpArgs false
set_option linter.unusedSectionVars false
namespace Gal
open Go Go.RowKit
/-- a state -/
def Form.sta : Form Sta := (Form.lay.slice.and (Form.grd.slice.and Form.int)).as fun x => ⟨x.1, x.2.1, x.2.2⟩
/-- a value reads as a state -/
def StaV (w : World) (v : Value) (s : Sta) : Prop := ∃ a0 n k0 b0 o0 a1 n1 k1 b1 o1, v = .agg #[.slice a0 n k0, .slice a1 n1 k1, .int .i64 s.steps] ∧ RowAt Form.lay w anyB a0 n k0 b0 o0 s.N ∧ RowAt Form.grd w anyB a1 n1 k1 b1 o1 s.V
theorem sta_reads {w : World} {cs : List Value} {s : Sta} (h : Form.sta.reads w anyB cs s) : ∃ a0 n k0 b0 o0 a1 n1 k1 b1 o1, cs = [.slice a0 n k0, .slice a1 n1 k1, .int .i64 s.steps] ∧ RowAt Form.lay w anyB a0 n k0 b0 o0 s.N ∧ RowAt Form.grd w anyB a1 n1 k1 b1 o1 s.V := by
  obtain ⟨⟨N, V, st⟩, ⟨c0, c1, rfl, ⟨a0, n, k0, b0, o0, h0, hr0⟩, c2, c3, rfl, ⟨a1, n1, k1, b1, o1, h1, hr1⟩, h2⟩, rfl⟩ := h
  simp only at h0 h1 h2
  rw [h0, h1, h2]
  exact ⟨a0, n, k0, b0, o0, a1, n1, k1, b1, o1, rfl, hr0, hr1⟩
theorem At.sta {w : World} {v : Value} {s : Sta} (h : At Form.sta w anyB v s) : StaV w v s := by
  obtain ⟨cs, rfl, h⟩ := h
  obtain ⟨a0, n, k0, b0, o0, a1, n1, k1, b1, o1, rfl, h0, h1⟩ := sta_reads h
  exact ⟨a0, n, k0, b0, o0, a1, n1, k1, b1, o1, rfl, h0, h1⟩
end Gal
namespace Go.Proofs.YtgknjikjjklaiaaDoor
open Go.RowKit Gal Go.ChangeShapes Go.WideShapes
set_option maxRecDepth 100000
theorem opens_sta : Opens Tryd.prog Form.sta 61 := Opens.as (Opens.three Tryd.underlying61 (Opens.slice opens_lay Tryd.underlying58 (by kernel_rfl) (by decide)) (Opens.slice opens_grd Tryd.underlying59 (by kernel_rfl) (by decide)) opens_int (by kernel_rfl) (by kernel_rfl) (by kernel_rfl) (by kernel_rfl)) _
theorem open_galley_galleyref1_State {H : Type} {enc : TypeId × Value → H} {w : World} {base b0 : Nat} {r : Reach} {spare : Nat → Bool} {held : Bool} {v : Value} {d : DataW H} {p : List MemPlace}
    (hv : Value.okWide Tryd.prog w r b0 61 v) (h : DataW.Trod enc Tryd.prog w base spare held 61 v d p) : ∃ s : Sta, StaV w v s := by
  obtain ⟨s, hs⟩ := opens_sta.top_struct Tryd.underlying61 hv h
  exact ⟨s, hs.sta⟩
end Go.Proofs.YtgknjikjjklaiaaDoor
