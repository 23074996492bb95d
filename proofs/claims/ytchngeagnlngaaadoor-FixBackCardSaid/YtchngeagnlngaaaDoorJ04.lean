/- Texts joined: SameI. -/
import Derived.Test.YtchngeagnlngaaaDoorProg
import Derived.Test.YtchngeagnlngaaaDoorJ03
import Derived.WalkKit
import Derived.WalkLawsBesides
import Derived.WalkSpells
import Derived.BigQuiet
import Derived.IntWalk
import Derived.RegionTactic
section
set_option linter.unusedVariables false
set_option linter.unusedSimpArgs false
namespace Go.Proofs.YtchngeagnlngaaaDoor
open Go.RowKit Gal
theorem ret_int {k : IntKind} {a b : Int} (h : a = b) : Ending.returned (.int k a) = .returned (.int k b) := by rw [h]
instance : DecidableEq Mat := fun a b => by
 obtain ⟨r, c, xs⟩ := a
 obtain ⟨r', c', ys⟩ := b
 simp only [Mat.mk.injEq]
 exact inferInstance
end Go.Proofs.YtchngeagnlngaaaDoor
end
