/- Two rows of unlike elements lie apart. Over any program. -/
import Derived.Test.YtgknjikjjklaiaaDoorBaseR
set_option linter.unusedVariables false
set_option linter.unusedSimpArgs false
set_option linter.unusedSectionVars false
namespace Gal
open Go Go.RowKit
theorem OwnRow.apart {α β : Type} {f : Form α} {g : Form β} {E E' : TypeId} {w : World} {base base' : Nat} {F G : Nat → Prop} {v u : Value} {xs : List α} {ys : List β} (h : OwnRow f E w base F v xs) (k : OwnRow g E' w base' G u ys) (hne : E ≠ E') : ∀ b, v.ownBlock = some b → u.ownBlock ≠ some b := by
  intro b hv hu
  obtain ⟨cs, ⟨_, h1⟩, _⟩ := h.holds
  obtain ⟨ds, ⟨_, h2⟩, _⟩ := k.holds
  rcases h1 with ⟨rfl, _⟩ | ⟨p, c, cur, rfl, _, hp, _⟩
  · cases hv
  · rcases h2 with ⟨rfl, _⟩ | ⟨q, c', cur', rfl, _, hq, _⟩
    · cases hu
    · simp [Value.ownBlock] at hv hu
      subst hv hu
      rw [hp] at hq
      simp at hq
      exact hne hq.2
end Gal
