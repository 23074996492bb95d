/- A row that holds where nobody is left holds where whoever is left only leaves. Over any program. -/
import Derived.Conc.Holds
import Derived.ClaimOpenTies
import Derived.Leaving
import Derived.Handed
import Derived.SevenTiedAt
set_option linter.unusedVariables false
namespace Gal
open Go
theorem leave_on {p : Pinned} {s : OpenSpec} {c : OpenClaim} (hstart : c.start = .entering) (hst : c.stops = []) (hw : ({ c with leaving := true } : OpenClaim).wf s = true)
    (h : ({ c with leaving := false } : OpenClaim).holds p s) : ({ c with leaving := true } : OpenClaim).holds p s := by
  obtain ⟨-, a2, a3, a4, a5, a6, a7, a8, f, fn, b1, b2, b3, b4, b5, b6, b7, b8, b9, b10, b11, b12, b13, b14, b15, b16, b17, b18, b19, b20, hos, L, hL, hall⟩ := h
  refine ⟨hw, a2, a3, a4, a5, a6, a7, a8, f, fn, b1, b2, b3, b4, b5, b6, b7, b8, b9, b10, b11, b12, b13, b14, b15, b16, b17, b18, b19, b20, hos, L, hL, fun os hv hq H enc inj => ?_⟩
  have F := hall os hv hq H enc inj
  unfold OpenClaim.form at F ⊢
  simp only [hstart, hst] at F ⊢
  exact fun J => ReturnsInOpen.mono (fun last _ _ x => ⟨x.2.1, onlyLeaving_of_quiet x.1, x.2.2⟩) (fun _ x => x) (F J)
/-- A tied card over a program that holds go statements. -/
theorem tied_goes (Lk : Looks) {p : Pinned} {s : OpenSpec} {c : OpenClaim} (kinds : List LaidKind) (tests : Bool) (har : Bool × String) (lk : Bool)
    (hc : c.holds p s) (hw : c.wfByText s = true) (htie : c.laidByTextAt Lk p kinds tests) (hst : c.start = .entering) (hnb : c.noBlocks = false ∧ c.again = false)
    (hm : p.checked.prog.mainIs = some (har.1, har.2.toList)) (hn : (!har.1 && har.2.isEmpty && !lk) = false)
    (hl : ∀ f fn, p.checked.prog.funcNamed c.func = some f → p.checked.prog.funcs[f]? = some fn → lk = p.checked.prog.looks [] ∧ ∀ (j : Nat) t, fn.params[j]? = some t → p.checked.prog.wantsStandIn t = false)
    (hg : true = c.goesBy p.checked.prog) :
    Claim7.holds p (.plain s) { stood := { row := c, standIns := [], harness := har, looks := lk }, kinds := [], laidByText := true, laidKinds := kinds, laidTests := tests, laidLooks := Lk, goes := true } := by
  have h6 : Claim7.isSixth { stood := { row := c, standIns := [], harness := har, looks := lk }, kinds := [] } = false := by simpa [Claim7.isSixth] using hn
  have h0 := Claim7.tied_new_at Lk kinds tests (Claim7.new_of_sixth hc har lk hst hnb hm h6 hl) hw
  refine ⟨h0, ?_, htie, ?_, hg⟩
  · intro D hD
    exact absurd hD (by simp)
  · intro h
    exact absurd h (by simp)
end Gal
