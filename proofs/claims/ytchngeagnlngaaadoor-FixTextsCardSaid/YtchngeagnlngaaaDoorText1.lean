/- fix.Text at 384, and fixFact. -/
import Derived.Test.YtchngeagnlngaaaDoorText0
set_option linter.unusedVariables false
set_option linter.unusedSimpArgs false
namespace Go.Proofs.YtchngeagnlngaaaDoor
open Go.RowKit Gal
set_option maxHeartbeats 1000000 in
set_option maxRecDepth 100000 in
theorem text384 (w : World) : Calls Tryd.prog 6 #[.int .i64 384] w fun e w' => e = .returned (.string ⟨#[49, 46, 53]⟩) ∧ Below w.heap.size w w' := by
  have hc : clamp 384 = 384 := by decide
  go_enter Tryd.func6, Tryd.ntmps6
  go_wp2_with (first | (go_at_call 12; refine (clamp_any _ _).mono ?_; rintro e w' ⟨rfl, rfl⟩; rw [hc]) | (go_at_call 19; refine (itoa_one _).mono ?_; rintro e w' ⟨rfl, hw⟩; obtain rfl := hw.symm))
  go_loopw [4] (fun i wr => (i = .int .i64 128 ∧ Lib.IsBuilder 49 5 w.heap.size w.heap.size (Lib.byteCells []) wr ∧ Below w.heap.size w wr) ∨ (i = .int .i64 0 ∧ Lib.IsBuilder 49 5 w.heap.size w.heap.size (Lib.byteCells [53]) wr ∧ Below w.heap.size w wr)) (fun i _ => (intOf i).toNat)
  case atStart => exact .inl ⟨rfl, Lib.fresh_isBuilder _ _ _, (Below.refl _ w).alloc (Nat.le_refl _) _⟩
  case round =>
    rcases hrel with ⟨rfl, hI, hb⟩ | ⟨rfl, hI, hb⟩
    · go_wp2_with (go_at_call 20; refine (writeByte_any w.heap.size w.heap.size _ 53 _ hI (by decide) hb.size).mono ?_; rintro e w1 ⟨rfl, hI1, hb1⟩)
      go_roundw
      case rel => exact .inr ⟨rfl, .inr hI1, hb.trans hb1⟩
      case measure => simp [intOf]
    · go_wp2_with (go_at_call 21; refine (builder_String w.heap.size w.heap.size [53] _ hI (by decide)).mono ?_; rintro e w1 ⟨rfl, hb1⟩)
      go_ret
      exact ⟨rfl, hb.trans hb1⟩

set_option maxHeartbeats 1000000 in
set_option maxRecDepth 100000 in
theorem fixFact_any (w : World) : Calls Tryd.prog 11 #[] w fun e w' => e = .returned (.bool true) ∧ Below w.heap.size w w' := by
  have hc : mul 384 512 = 768 := by decide
  go_enter Tryd.func11, Tryd.ntmps11
  go_wp2_with (first | (go_at_call 27; refine (mul_any _ _ _).mono ?_; rintro e w' ⟨rfl, rfl⟩; rw [hc]) | (go_at_call 6; refine (text384 _).mono ?_; rintro e w1 ⟨rfl, hb1⟩))
  go_ret
  exact ⟨rfl, hb1⟩
end Go.Proofs.YtchngeagnlngaaaDoor
