/- Texts joined: Byt. -/
import Derived.Test.YtgknjikjjklaiaaDoorJ09
import Derived.Laws.BitsAllLaws
section
set_option linter.unusedVariables false
set_option linter.unusedSimpArgs false
set_option linter.unusedSectionVars false
namespace Gal
open Go Go.RowKit
def Form.u8 : Form Nat where
 size := 1
 reads := fun _ _ cs x => cs = [.int .u8 (x : Int)] ∧ x < 256
 len := fun h => by rw [h.1]; rfl
 one := fun h u hu => by rw [h.1] at hu; simp at hu; rw [hu]; rfl
 wide := fun _ h => h
 keep := fun _ h => h
def Plainly {α : Type} (f : Form α) : Prop := ∀ (w w' : World) (F G : Nat → Prop) (cs : List Value) (x : α), f.reads w F cs x → f.reads w' G cs x
theorem RowAt.any {α : Type} {f : Form α} (hp : Plainly f) {w : World} {F G : Nat → Prop} {a : Option Addr} {n k b o : Nat} {xs : List α} (h : RowAt f w F a n k b o xs) (hG : 0 < n → G b) : RowAt f w G a n k b o xs :=
 ⟨h.len, h.le, h.maxc, h.ptr, h.lt, hG, fun i x hx => by
  obtain ⟨cs, h1, h2⟩ := h.cell i x hx
  exact ⟨cs, hp _ _ _ _ _ _ h1, h2⟩⟩
section
variable {P : Program} {w : World}
end
end Gal
end
