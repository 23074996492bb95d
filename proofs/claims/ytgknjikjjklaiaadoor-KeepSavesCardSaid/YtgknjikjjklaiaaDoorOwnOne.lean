/- A row of one element. Over any program. -/
import Derived.Test.YtgknjikjjklaiaaDoorBaseR
set_option linter.unusedVariables false
set_option linter.unusedSimpArgs false
set_option linter.unusedSectionVars false
namespace Gal
open Go Go.RowKit
/-- a row of one element, in a block of its own -/
theorem own_one {α : Type} {f : Form α} {E : TypeId} {w : World} {base b : Nat} {F : Nat → Prop} {cs : List Value} {x : α} (h : Box w b cs E) (hr : f.reads w (fun c => F c ∧ c ≠ b) cs x) (hb : base ≤ b) : OwnRow f E w base F (.slice (some ⟨b, 0, none⟩) 1 1) [x] := by
  have hl := f.len hr
  refine ⟨cs, ⟨by simp [hl], Or.inr ⟨b, 1, cs.toArray, rfl, hb, h, Nat.le_refl _, by unfold maxLen; omega, by simp [hl], by show List.take (1 * f.size) cs = cs; rw [Nat.one_mul, ← hl]; simp⟩⟩, Flat.single (f.wide (fun c hc _ => ⟨hc.1, fun e => hc.2 ?_⟩) hr)⟩
  simp [Value.ownBlock] at e
  exact e.symm
theorem IntsAt.grown {w w' : World} {a : Option Addr} {n cap b off : Nat} {xs : List Int} {row : Option Nat} (h : IntsAt w a n cap b off xs) (hg : w.grownBy w' row) (hne : 0 < n → some b ≠ row) : IntsAt w' a n cap b off xs :=
  ⟨h.len, h.le, h.maxc, h.ptr, fun hn => Nat.lt_of_lt_of_le (h.lt hn) hg.size, fun i hi => (World.cell?_of_block (a := ⟨b, off + i, none⟩) (hg.block b (h.lt (by omega)) (hne (by omega)))).trans (h.cell i hi)⟩
end Gal
