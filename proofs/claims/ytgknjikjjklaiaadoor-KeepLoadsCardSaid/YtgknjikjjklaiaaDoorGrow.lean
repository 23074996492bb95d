/- A region that draws its order, whose operations only read, and whose callees read and lay new blocks: one walk in the text's order serves every order. Over any program. -/
import Derived.Test.YtgknjikjjklaiaaDoorBaseR
import Derived.BigQuiet
set_option linter.unusedVariables false
set_option linter.unusedSimpArgs false
namespace Gal
open Go Go.RowKit
/-- the worlds in which nothing that was there has changed -/
def Grown (w : World) : Type := {W : World // Below w.heap.size w W}
def Grown.w {w : World} (q : Grown w) : World := q.1
theorem Grown.below {w : World} (q : Grown w) : Below w.heap.size w q.w := q.2
instance Grown.some (w : World) : Nonempty (Grown w) := ⟨⟨w, Below.refl _ _⟩⟩
theorem Grown.call {P : Program} {w : World} {q : Grown w} {f : FuncId} {args : Array Value} {v : Value} (h : Calls P f args q.w fun e w' => e = .returned v ∧ Below q.w.heap.size q.w w') :
    Calls P f args q.w fun e w'' => e = .returned v ∧ ∃ q' : Grown w, w'' = q'.w :=
  h.mono fun e w' ⟨he, hb⟩ => ⟨he, ⟨w', q.below.trans (hb.mono q.below.size)⟩, rfl⟩
theorem wp_region_grow {P : Program} {id : Nat} {Q : Exit → Act → World → Prop} {a : Act} {w : World} {l : List Oper} (hm : P.follows .mixedOrders = true) (hB : Region.lexB .any l.toArray = true)
    (h : wpQuiet P l.toArray (fun w' => ∃ q : Grown w, w' = q.w) (fun a' => ∀ w', (∃ q : Grown w, w' = q.w) → Q .normal a' w') l a) : (Code.region id l.toArray true).wp P Q a w :=
  wp_region_quiet (C := fun w' => ∃ q : Grown w, w' = q.w) hm hB ⟨⟨w.drew, (Below.refl _ _).drew⟩, rfl⟩ (by simpa using h)
end Gal
