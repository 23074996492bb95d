/-
  DERIVED. GIVEN WITH THE SEED: THE CARDS: each row of YtchngeagnlngaaaGreatDoorRows.lean that lists a variable, with what it lists TIED to the program's text (the seventh form; the later family's looks); each row that meets fmt, with fmt's text TOLD by the authors' own Lean function (tested against real Go, not proved from fmt's source: count such statements apart). THE CARD IS WHAT COUNTS. Prove the row's statement (the work); the ties are given (YtchngeagnlngaaaGreatDoorTie.lean); close each card by the builder's one call (the guide's Derived/Test/ToyasCard.lean, 'card_holds'). Laid BY PROGRAM, IN A SANDBOX (cutbox-door.mjs). By AI agents, Wed Nov 11 2026. No macro, syntax, notation, axiom, sorry.
-/
import Derived.Test.YtchngeagnlngaaaGreatDoorRows
import GoSem.ClaimSeven
namespace Go.Proofs.YtchngeagnlngaaaGreatDoor
namespace Rows

/-- THE TIED CARD OF 'galleylaw3.DrillRuns'. -/
def drillRunsCard : Claim7 := { stood := { row := drillRunsRow, standIns := [], harness := (true, "72b6df98c94e6e6827c2f293c223ece3365c95399cd6de40e36c2b4f98601e82"), looks := true }, kinds := [], alts := [], laidByText := true, laidKinds := [.handle, .sentinel], laidTests := true, laidLooks := .later }
def DrillRunsCardSaid : Prop := Claim7.holds Tryz.pinned (.plain (OpenSpec.ofChange drillRunsSpec)) drillRunsCard

/-- THE SECOND FORM's CARD OF 'galleylaw3.DrillRuns'. -/
def drillRunsUptoCard : Claim7 := { stood := { row := drillRunsUptoRow, standIns := [], harness := (true, "72b6df98c94e6e6827c2f293c223ece3365c95399cd6de40e36c2b4f98601e82"), looks := true }, kinds := [], alts := [], laidByText := true, laidKinds := [.handle, .sentinel], laidTests := true, laidLooks := .later }
def DrillRunsUptoCardSaid : Prop := Claim7.holds Tryz.pinned (.plain (OpenSpec.upto drillRunsSpec)) drillRunsUptoCard
end Rows
end Go.Proofs.YtchngeagnlngaaaGreatDoor
