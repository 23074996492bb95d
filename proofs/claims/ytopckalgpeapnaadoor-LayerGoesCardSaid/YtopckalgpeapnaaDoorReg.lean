/- The cells of whole blocks, as a region that draws its order asks for them. Over any program. -/
import Derived.Test.YtopckalgpeapnaaDoorFar
set_option linter.unusedVariables false
namespace Gal
open Go Go.RowKit
variable {w : World} {b c d : Nat} {t u s : TypeId}
theorem IntsAt.drew {a : Option Addr} {n cap o : Nat} {xs : List Int} (h : IntsAt w a n cap b o xs) : IntsAt w.drew a n cap b o xs := h.drewN 1
theorem cells3 {x y z : Value} (h : Box w b [x, y, z] t) : w.cell? ⟨b, 0, none⟩ = some x ∧ w.cell? ⟨b, 1, none⟩ = some y ∧ w.cell? ⟨b, 2, none⟩ = some z := ⟨h.cell 0, h.cell 1, h.cell 2⟩
theorem cells33 {x y z x' y' z' : Value} (h : Box w b [x, y, z] t) (k : Box w c [x', y', z'] u) :
    w.cell? ⟨b, 0, none⟩ = some x ∧ w.cell? ⟨b, 1, none⟩ = some y ∧ w.cell? ⟨b, 2, none⟩ = some z ∧ w.cell? ⟨c, 0, none⟩ = some x' ∧ w.cell? ⟨c, 1, none⟩ = some y' ∧ w.cell? ⟨c, 2, none⟩ = some z' :=
  ⟨h.cell 0, h.cell 1, h.cell 2, k.cell 0, k.cell 1, k.cell 2⟩
theorem cells333 {x y z x' y' z' x2 y2 z2 : Value} (h : Box w b [x, y, z] t) (k : Box w c [x', y', z'] u) (l : Box w d [x2, y2, z2] s) :
    w.cell? ⟨b, 0, none⟩ = some x ∧ w.cell? ⟨b, 1, none⟩ = some y ∧ w.cell? ⟨b, 2, none⟩ = some z ∧ w.cell? ⟨c, 0, none⟩ = some x' ∧ w.cell? ⟨c, 1, none⟩ = some y' ∧ w.cell? ⟨c, 2, none⟩ = some z' ∧
    w.cell? ⟨d, 0, none⟩ = some x2 ∧ w.cell? ⟨d, 1, none⟩ = some y2 ∧ w.cell? ⟨d, 2, none⟩ = some z2 :=
  ⟨h.cell 0, h.cell 1, h.cell 2, k.cell 0, k.cell 1, k.cell 2, l.cell 0, l.cell 1, l.cell 2⟩
theorem cells36 {x y z x0 x1 x2 x3 x4 x5 : Value} (h : Box w b [x, y, z] t) (k : Box w c [x0, x1, x2, x3, x4, x5] u) :
    w.cell? ⟨b, 0, none⟩ = some x ∧ w.cell? ⟨b, 1, none⟩ = some y ∧ w.cell? ⟨b, 2, none⟩ = some z ∧ w.cell? ⟨c, 0, none⟩ = some x0 ∧ w.cell? ⟨c, 1, none⟩ = some x1 ∧ w.cell? ⟨c, 2, none⟩ = some x2 ∧
    w.cell? ⟨c, 3, none⟩ = some x3 ∧ w.cell? ⟨c, 4, none⟩ = some x4 ∧ w.cell? ⟨c, 5, none⟩ = some x5 :=
  ⟨h.cell 0, h.cell 1, h.cell 2, k.cell 0, k.cell 1, k.cell 2, k.cell 3, k.cell 4, k.cell 5⟩
theorem cells733 {v0 v1 v2 v3 v4 v5 v6 x y z x' y' z' : Value} (h : Box w b [v0, v1, v2, v3, v4, v5, v6] t) (k : Box w c [x, y, z] u) (l : Box w d [x', y', z'] s) :
    w.cell? ⟨b, 0, none⟩ = some v0 ∧ w.cell? ⟨b, 1, none⟩ = some v1 ∧ w.cell? ⟨b, 2, none⟩ = some v2 ∧ w.cell? ⟨b, 3, none⟩ = some v3 ∧ w.cell? ⟨b, 4, none⟩ = some v4 ∧ w.cell? ⟨b, 5, none⟩ = some v5 ∧ w.cell? ⟨b, 6, none⟩ = some v6 ∧
    w.cell? ⟨c, 0, none⟩ = some x ∧ w.cell? ⟨c, 1, none⟩ = some y ∧ w.cell? ⟨c, 2, none⟩ = some z ∧ w.cell? ⟨d, 0, none⟩ = some x' ∧ w.cell? ⟨d, 1, none⟩ = some y' ∧ w.cell? ⟨d, 2, none⟩ = some z' :=
  ⟨h.cell 0, h.cell 1, h.cell 2, h.cell 3, h.cell 4, h.cell 5, h.cell 6, k.cell 0, k.cell 1, k.cell 2, l.cell 0, l.cell 1, l.cell 2⟩
end Gal
namespace Gal
open Go Go.RowKit
theorem Box.set3z {w : World} {b : Nat} {t : TypeId} (h : Box w b [.int .i64 0, .int .i64 0, .slice none 0 0] t) (x y z : Value) :
    Box (((w.setCell ⟨b, 0, none⟩ x).setCell ⟨b, 1, none⟩ y).setCell ⟨b, 2, none⟩ z) b [x, y, z] t := ((h.set 0 x).set 1 y).set 2 z
theorem Box.set6z {w : World} {b : Nat} {t : TypeId} (h : Box w b [.int .i64 0, .int .i64 0, .slice none 0 0, .int .i64 0, .int .i64 0, .slice none 0 0] t) (x0 x1 x2 x3 x4 x5 : Value) :
    Box ((((((w.setCell ⟨b, 0, none⟩ x0).setCell ⟨b, 1, none⟩ x1).setCell ⟨b, 2, none⟩ x2).setCell ⟨b, 3, none⟩ x3).setCell ⟨b, 4, none⟩ x4).setCell ⟨b, 5, none⟩ x5) b [x0, x1, x2, x3, x4, x5] t :=
  (((((h.set 0 x0).set 1 x1).set 2 x2).set 3 x3).set 4 x4).set 5 x5
end Gal
