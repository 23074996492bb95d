/- Texts joined: Leav. -/
import Derived.Conc.Holds
import Derived.Leaving
import Derived.Handed
section
set_option linter.unusedVariables false
namespace Gal
open Go
theorem leaving_of_handed {a : Assume} {C : Checked} {os : Os} {f : FuncId} {r : Reach} {Pre : World → Array Value → Prop} {Post : World → Array Value → Value → World → Prop} (h : ReturnsInHanded a C os f r Pre Post) : ReturnsInLeavingWide a C os f r Pre Post :=
 fun enter => ReturnsInOpen.mono (fun last _ _ x => ⟨x.2.1, onlyLeaving_of_quiet x.1, x.2.2⟩) (fun _ x => x) (h enter)
end Gal
end
