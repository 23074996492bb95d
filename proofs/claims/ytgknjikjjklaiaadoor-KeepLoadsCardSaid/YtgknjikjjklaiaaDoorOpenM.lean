/- How a message is opened. -/
import Derived.Test.YtgknjikjjklaiaaDoorOpens
import Derived.Test.YtgknjikjjklaiaaDoorPWire3
import Derived.Test.YtgknjikjjklaiaaDoorByt
set_option linter.unusedVariables false
set_option linter.unusedSimpArgs false
set_option linter.unusedSectionVars false
namespace Gal
open Go Go.RowKit
/-- a message -/
def Form.msg : Form MsgD := (Form.int.and (Form.int.and Form.mat)).as fun x => ⟨x.1, x.2.1, x.2.2⟩
/-- a value reads as a message -/
def MsgV (w : World) (v : Value) (m : MsgD) : Prop := ∃ a n k b o, v = .agg #[.int .i64 m.kind, .int .i64 m.micro, .int .i64 m.body.rows, .int .i64 m.body.cols, .slice a n k] ∧ IntsAt w a n k b o m.body.cells
theorem msg_reads {w : World} {F : Nat → Prop} {cs : List Value} {m : MsgD} (h : Form.msg.reads w F cs m) : ∃ a n k b o, cs = [.int .i64 m.kind, .int .i64 m.micro, .int .i64 m.body.rows, .int .i64 m.body.cols, .slice a n k] ∧ (0 < n → F b) ∧ IntsAt w a n k b o m.body.cells := by
  obtain ⟨⟨k, mi, b⟩, ⟨c0, c1, rfl, h0, c2, c3, rfl, h1, a, n, cap, bl, off, h2, hF, h3⟩, rfl⟩ := h
  simp only at h0 h1 h2
  rw [h0, h1, h2]
  exact ⟨a, n, cap, bl, off, rfl, hF, h3⟩
theorem At.msg {w : World} {F : Nat → Prop} {v : Value} {m : MsgD} (h : At Form.msg w F v m) : MsgV w v m := by
  obtain ⟨cs, rfl, h⟩ := h
  obtain ⟨a, n, k, b, o, rfl, _, h3⟩ := msg_reads h
  exact ⟨a, n, k, b, o, rfl, h3⟩
end Gal
namespace Go.Proofs.YtgknjikjjklaiaaDoor
open Go.RowKit Gal Go.ChangeShapes Go.WideShapes
set_option maxRecDepth 100000
theorem opens_msg : Opens Tryd.prog Form.msg 26 := Opens.as (Opens.three Tryd.underlying26 opens_int opens_int opens_mat (by kernel_rfl) (by kernel_rfl) (by kernel_rfl) (by kernel_rfl)) _
theorem open_Message {H : Type} {enc : TypeId × Value → H} {w : World} {base b0 : Nat} {r : Reach} {spare : Nat → Bool} {held : Bool} {v : Value} {d : DataW H} {p : List MemPlace}
    (hv : Value.okWide Tryd.prog w r b0 26 v) (h : DataW.Trod enc Tryd.prog w base spare held 26 v d p) : ∃ m : MsgD, MsgV w v m := by
  obtain ⟨m, hm⟩ := opens_msg.top_struct Tryd.underlying26 hv h
  exact ⟨m, hm.msg⟩
/-- a value reads as bytes -/
def BytesV (w : World) (v : Value) (xs : List Nat) : Prop := ∃ a n k b o, v = .slice a n k ∧ RowAt Form.u8 w anyB a n k b o xs
theorem opens_u8 : Opens Tryd.prog Form.u8 5 := ⟨by kernel_rfl, fun H enc w base spare held fuel cs y h => by
  obtain ⟨x, e, _, hw⟩ := DataW.trod_int Tryd.underlying5 h
  have hx : 0 ≤ x ∧ x ≤ 255 := by
    simp [Lit.wf, IntKind.min, IntKind.max, IntKind.signed, IntKind.bits] at hw
    exact hw
  exact ⟨x.toNat, by rw [e, Int.toNat_of_nonneg hx.1], by omega⟩⟩
theorem open_luint8 {H : Type} {enc : TypeId × Value → H} {w : World} {base b0 : Nat} {r : Reach} {spare : Nat → Bool} {held : Bool} {v : Value} {d : DataW H} {p : List MemPlace}
    (hv : Value.okWide Tryd.prog w r b0 27 v) (h : DataW.Trod enc Tryd.prog w base spare held 27 v d p) : ∃ xs : List Nat, BytesV w v xs := by
  obtain ⟨a, n, cap, b, off, xs, e, hr, _⟩ := opens_u8.top_slice Tryd.underlying27 (by kernel_rfl) (by decide) hv h
  exact ⟨xs, a, n, cap, b, off, e, hr⟩
end Go.Proofs.YtgknjikjjklaiaaDoor
