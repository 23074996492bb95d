/- Contracts of package net: Check; of the reference: NetWide. -/
import Derived.Test.YtikcdjibflleeaaJPlain
import Derived.Test.YtikcdjibflleeaaForms
import Derived.Test.YtikcdjibflleeaaLay3
set_option linter.unusedVariables false
set_option linter.unusedSimpArgs false
namespace Go.Proofs.Ytikcdjibflleeaa
open Go.RowKit Gal
/-- the cells of a layer in a list, and what they read as -/
theorem lay_cells {w : World} {F : Nat → Prop} {a : Option Addr} {n k b o : Nat} {ls : List Lay} {i : Nat} (h : RowAt Form.lay w F a n k b o ls) (hi : i < n) :
    ∃ a1 n1 k1 b1 o1 a2 n2 k2 b2 o2, w.cell? ⟨b, o + i * 7, none⟩ = some (.int .i64 (lx ls i).kind) ∧ w.cell? ⟨b, o + i * 7 + 1, none⟩ = some (.int .i64 (lx ls i).W.rows) ∧ w.cell? ⟨b, o + i * 7 + 2, none⟩ = some (.int .i64 (lx ls i).W.cols) ∧ w.cell? ⟨b, o + i * 7 + 3, none⟩ = some (.slice a1 n1 k1) ∧
      w.cell? ⟨b, o + i * 7 + 4, none⟩ = some (.int .i64 (lx ls i).B.rows) ∧ w.cell? ⟨b, o + i * 7 + 5, none⟩ = some (.int .i64 (lx ls i).B.cols) ∧ w.cell? ⟨b, o + i * 7 + 6, none⟩ = some (.slice a2 n2 k2) ∧ IntsAt w a1 n1 k1 b1 o1 (lx ls i).W.cells ∧ IntsAt w a2 n2 k2 b2 o2 (lx ls i).B.cells := by
  obtain ⟨cs, hr, hc⟩ := h.cell i _ (lx_get (by rw [h.len]; exact hi))
  obtain ⟨a1, n1, k1, b1, o1, a2, n2, k2, b2, o2, rfl, _, x1, _, x2⟩ := lay_reads hr
  exact ⟨a1, n1, k1, b1, o1, a2, n2, k2, b2, o2, hc 0 (by decide), hc 1 (by decide), hc 2 (by decide), hc 3 (by decide), hc 4 (by decide), hc 5 (by decide), hc 6 (by decide), x1, x2⟩
set_option linter.unusedSectionVars false
set_option maxRecDepth 100000
set_option maxHeartbeats 4000000
end Go.Proofs.Ytikcdjibflleeaa
