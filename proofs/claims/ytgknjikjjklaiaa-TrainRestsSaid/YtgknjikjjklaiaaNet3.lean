/- Contract of the laws' sameAll, of two lists that are the same; how a net is opened. -/
import Derived.Test.YtgknjikjjklaiaaNet2
import Derived.Test.YtgknjikjjklaiaaOpenL
set_option linter.unusedVariables false
set_option linter.unusedSimpArgs false
namespace Gal
open Go Go.RowKit
theorem mats_cells {w : World} {F : Nat → Prop} {a : Option Addr} {n k b o : Nat} {ms : List Mat} {i : Nat} (h : RowAt Form.mat w F a n k b o ms) (hi : i < n) :
    ∃ a1 n1 k1 b1 o1, Cells3 w b (o + i * 3) (.int .i64 (mx ms i).rows) (.int .i64 (mx ms i).cols) (.slice a1 n1 k1) ∧ IntsAt w a1 n1 k1 b1 o1 (mx ms i).cells := by
  have hx : ms[i]? = some (mx ms i) := by unfold mx; rw [List.getElem?_eq_getElem (by have := h.len; omega)]; rfl
  obtain ⟨cs, ⟨a1, n1, k1, b1, o1, rfl, _, x1⟩, hc⟩ := h.cell i _ hx
  exact ⟨a1, n1, k1, b1, o1, ⟨hc 0 (by decide), hc 1 (by decide), hc 2 (by decide)⟩, x1⟩
theorem cells33c {w : World} {b c i j : Nat} {x y z x' y' z' : Value} (h : Cells3 w b i x y z) (k : Cells3 w c j x' y' z') :
    w.cell? ⟨b, i, none⟩ = some x ∧ w.cell? ⟨b, i + 1, none⟩ = some y ∧ w.cell? ⟨b, i + 2, none⟩ = some z ∧ w.cell? ⟨c, j, none⟩ = some x' ∧ w.cell? ⟨c, j + 1, none⟩ = some y' ∧ w.cell? ⟨c, j + 2, none⟩ = some z' := ⟨h.c0, h.c1, h.c2, k.c0, k.c1, k.c2⟩
end Gal
namespace Go.Proofs.Ytgknjikjjklaiaa
open Go.RowKit Gal Go.ChangeShapes Go.WideShapes
set_option maxRecDepth 100000
set_option maxRecDepth 100000
set_option maxHeartbeats 4000000
end Go.Proofs.Ytgknjikjjklaiaa
