/- More cells of whole blocks. Over any program. -/
import Derived.Test.YtopckalgpeapnaaDoorReg
set_option linter.unusedVariables false
namespace Gal
open Go Go.RowKit
theorem IntsAt.c0 {w : World} {a : Option Addr} {n cap b o : Nat} {xs : List Int} (h : IntsAt w a n cap b o xs) (hn : 0 < n) : w.cell? ⟨b, o, none⟩ = some (.int .i64 (ix xs 0)) := h.cell 0 hn
theorem cells371 {w : World} {b c d o : Nat} {t u : TypeId} {x y z v0 v1 v2 v3 v4 v5 v6 v : Value} (h : Box w b [x, y, z] t) (k : Box w c [v0, v1, v2, v3, v4, v5, v6] u) (l : w.cell? ⟨d, o, none⟩ = some v) :
    w.cell? ⟨b, 0, none⟩ = some x ∧ w.cell? ⟨b, 1, none⟩ = some y ∧ w.cell? ⟨b, 2, none⟩ = some z ∧ w.cell? ⟨c, 3, none⟩ = some v3 ∧ w.cell? ⟨d, o, none⟩ = some v :=
  ⟨h.cell 0, h.cell 1, h.cell 2, k.cell 3, l⟩
end Gal
