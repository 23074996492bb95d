/-
  DERIVED. GIVEN WITH THE SEED: THE CARDS: each row of YtjaepdkeldgikaaDoorRows.lean that lists a variable, with what it lists TIED to the program's text (the seventh form; the later family's looks); each row that meets fmt, with fmt's text TOLD by the authors' own Lean function (tested against real Go, not proved from fmt's source: count such statements apart). THE CARD IS WHAT COUNTS. Prove the row's statement (the work); the ties are given (YtjaepdkeldgikaaDoorTie.lean); close each card by the builder's one call (the guide's Derived/Test/ToyasCard.lean, 'card_holds'). Laid BY PROGRAM, IN A SANDBOX (cutbox-door.mjs). By AI agents, Wed Nov 11 2026. No macro, syntax, notation, axiom, sorry.
-/
import Derived.Test.YtjaepdkeldgikaaDoorRows
import GoSem.ClaimSeven
namespace Go.Proofs.YtjaepdkeldgikaaDoor
namespace Rows

/-- THE TIED CARD OF 'galleylaw2.PlanMakes'. -/
def planMakesCard : Claim7 := { stood := { row := planMakesRow, standIns := [], harness := (true, "98e532080795b267136e023ca18710ac060b93a600acdd620f217698668b6890"), looks := true }, kinds := [], alts := [], laidByText := true, laidKinds := [.handle], laidTests := true, laidLooks := .later }
def PlanMakesCardSaid : Prop := Claim7.holds Tryd.pinned (.plain (OpenSpec.ofChange planMakesSpec)) planMakesCard

/-- THE TIED CARD OF 'galleylaw2.PlanChecks'. -/
def planChecksCard : Claim7 := { stood := { row := planChecksRow, standIns := [], harness := (true, "98e532080795b267136e023ca18710ac060b93a600acdd620f217698668b6890"), looks := true }, kinds := [], alts := [], laidByText := true, laidKinds := [.handle], laidTests := true, laidLooks := .later }
def PlanChecksCardSaid : Prop := Claim7.holds Tryd.pinned (.plain (OpenSpec.ofChange planChecksSpec)) planChecksCard

/-- THE TIED CARD OF 'galleylaw2.PeakTells'. -/
def peakTellsCard : Claim7 := { stood := { row := peakTellsRow, standIns := [], harness := (true, "98e532080795b267136e023ca18710ac060b93a600acdd620f217698668b6890"), looks := true }, kinds := [], alts := [], laidByText := true, laidKinds := [.handle], laidTests := true, laidLooks := .later }
def PeakTellsCardSaid : Prop := Claim7.holds Tryd.pinned (.plain (OpenSpec.ofChange peakTellsSpec)) peakTellsCard

/-- THE TIED CARD OF 'galleylaw2.CutTells'. -/
def cutTellsCard : Claim7 := { stood := { row := cutTellsRow, standIns := [], harness := (true, "98e532080795b267136e023ca18710ac060b93a600acdd620f217698668b6890"), looks := true }, kinds := [], alts := [], laidByText := true, laidKinds := [.handle], laidTests := true, laidLooks := .later }
def CutTellsCardSaid : Prop := Claim7.holds Tryd.pinned (.plain (OpenSpec.ofChange cutTellsSpec)) cutTellsCard

/-- THE TIED CARD OF 'galleylaw2.ClockTimes'. -/
def clockTimesCard : Claim7 := { stood := { row := clockTimesRow, standIns := [], harness := (true, "98e532080795b267136e023ca18710ac060b93a600acdd620f217698668b6890"), looks := true }, kinds := [], alts := [], laidByText := true, laidKinds := [.handle], laidTests := true, laidLooks := .later }
def ClockTimesCardSaid : Prop := Claim7.holds Tryd.pinned (.plain (OpenSpec.ofChange clockTimesSpec)) clockTimesCard

/-- THE SECOND FORM's CARD OF 'galleylaw2.PlanMakes'. -/
def planMakesUptoCard : Claim7 := { stood := { row := planMakesUptoRow, standIns := [], harness := (true, "98e532080795b267136e023ca18710ac060b93a600acdd620f217698668b6890"), looks := true }, kinds := [], alts := [], laidByText := true, laidKinds := [.handle], laidTests := true, laidLooks := .later }
def PlanMakesUptoCardSaid : Prop := Claim7.holds Tryd.pinned (.plain (OpenSpec.upto planMakesSpec)) planMakesUptoCard

/-- THE SECOND FORM's CARD OF 'galleylaw2.PlanChecks'. -/
def planChecksUptoCard : Claim7 := { stood := { row := planChecksUptoRow, standIns := [], harness := (true, "98e532080795b267136e023ca18710ac060b93a600acdd620f217698668b6890"), looks := true }, kinds := [], alts := [], laidByText := true, laidKinds := [.handle], laidTests := true, laidLooks := .later }
def PlanChecksUptoCardSaid : Prop := Claim7.holds Tryd.pinned (.plain (OpenSpec.upto planChecksSpec)) planChecksUptoCard

/-- THE SECOND FORM's CARD OF 'galleylaw2.PeakTells'. -/
def peakTellsUptoCard : Claim7 := { stood := { row := peakTellsUptoRow, standIns := [], harness := (true, "98e532080795b267136e023ca18710ac060b93a600acdd620f217698668b6890"), looks := true }, kinds := [], alts := [], laidByText := true, laidKinds := [.handle], laidTests := true, laidLooks := .later }
def PeakTellsUptoCardSaid : Prop := Claim7.holds Tryd.pinned (.plain (OpenSpec.upto peakTellsSpec)) peakTellsUptoCard

/-- THE SECOND FORM's CARD OF 'galleylaw2.CutTells'. -/
def cutTellsUptoCard : Claim7 := { stood := { row := cutTellsUptoRow, standIns := [], harness := (true, "98e532080795b267136e023ca18710ac060b93a600acdd620f217698668b6890"), looks := true }, kinds := [], alts := [], laidByText := true, laidKinds := [.handle], laidTests := true, laidLooks := .later }
def CutTellsUptoCardSaid : Prop := Claim7.holds Tryd.pinned (.plain (OpenSpec.upto cutTellsSpec)) cutTellsUptoCard

/-- THE SECOND FORM's CARD OF 'galleylaw2.ClockTimes'. -/
def clockTimesUptoCard : Claim7 := { stood := { row := clockTimesUptoRow, standIns := [], harness := (true, "98e532080795b267136e023ca18710ac060b93a600acdd620f217698668b6890"), looks := true }, kinds := [], alts := [], laidByText := true, laidKinds := [.handle], laidTests := true, laidLooks := .later }
def ClockTimesUptoCardSaid : Prop := Claim7.holds Tryd.pinned (.plain (OpenSpec.upto clockTimesSpec)) clockTimesUptoCard
end Rows
end Go.Proofs.YtjaepdkeldgikaaDoor
