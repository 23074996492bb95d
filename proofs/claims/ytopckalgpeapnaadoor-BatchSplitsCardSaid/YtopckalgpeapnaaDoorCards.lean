/-
  DERIVED. GIVEN WITH THE SEED: THE CARDS: each row of YtopckalgpeapnaaDoorRows.lean that lists a variable, with what it lists TIED to the program's text (the seventh form; the later family's looks); each row that meets fmt, with fmt's text TOLD by the authors' own Lean function (tested against real Go, not proved from fmt's source: count such statements apart). THE CARD IS WHAT COUNTS. Prove the row's statement (the work); the ties are given (YtopckalgpeapnaaDoorTie.lean); close each card by the builder's one call (the guide's Derived/Test/ToyasCard.lean, 'card_holds'). Laid BY PROGRAM, IN A SANDBOX (cutbox-door.mjs). By AI agents, Wed Nov 11 2026. No macro, syntax, notation, axiom, sorry.
-/
import Derived.Test.YtopckalgpeapnaaDoorRows
import GoSem.ClaimSeven
namespace Go.Proofs.YtopckalgpeapnaaDoor
namespace Rows

/-- THE TIED CARD OF 'galleylaw1.MatStacks'. -/
def matStacksCard : Claim7 := { stood := { row := matStacksRow, standIns := [], harness := (true, "813457bc71464434b1a802f7fff12d648295e68a3f5768519c3d5c7367ed3a65"), looks := true }, kinds := [], alts := [], laidByText := true, laidKinds := [.handle], laidTests := true, laidLooks := .later }
def MatStacksCardSaid : Prop := Claim7.holds Tryd.pinned (.plain (OpenSpec.ofChange matStacksSpec)) matStacksCard

/-- THE TIED CARD OF 'galleylaw1.MatPairs'. -/
def matPairsCard : Claim7 := { stood := { row := matPairsRow, standIns := [], harness := (true, "813457bc71464434b1a802f7fff12d648295e68a3f5768519c3d5c7367ed3a65"), looks := true }, kinds := [], alts := [], laidByText := true, laidKinds := [.handle], laidTests := true, laidLooks := .later }
def MatPairsCardSaid : Prop := Claim7.holds Tryd.pinned (.plain (OpenSpec.ofChange matPairsSpec)) matPairsCard

/-- THE TIED CARD OF 'galleylaw1.MatParts'. -/
def matPartsCard : Claim7 := { stood := { row := matPartsRow, standIns := [], harness := (true, "813457bc71464434b1a802f7fff12d648295e68a3f5768519c3d5c7367ed3a65"), looks := true }, kinds := [], alts := [], laidByText := true, laidKinds := [.handle], laidTests := true, laidLooks := .later }
def MatPartsCardSaid : Prop := Claim7.holds Tryd.pinned (.plain (OpenSpec.ofChange matPartsSpec)) matPartsCard

/-- THE TIED CARD OF 'galleylaw1.LossTells'. -/
def lossTellsCard : Claim7 := { stood := { row := lossTellsRow, standIns := [], harness := (true, "813457bc71464434b1a802f7fff12d648295e68a3f5768519c3d5c7367ed3a65"), looks := true }, kinds := [], alts := [], laidByText := true, laidKinds := [.handle], laidTests := true, laidLooks := .later }
def LossTellsCardSaid : Prop := Claim7.holds Tryd.pinned (.plain (OpenSpec.ofChange lossTellsSpec)) lossTellsCard

/-- THE TIED CARD OF 'galleylaw1.BatchJoins'. -/
def batchJoinsCard : Claim7 := { stood := { row := batchJoinsRow, standIns := [], harness := (true, "813457bc71464434b1a802f7fff12d648295e68a3f5768519c3d5c7367ed3a65"), looks := true }, kinds := [], alts := [], laidByText := true, laidKinds := [.handle], laidTests := true, laidLooks := .later }
def BatchJoinsCardSaid : Prop := Claim7.holds Tryd.pinned (.plain (OpenSpec.ofChange batchJoinsSpec)) batchJoinsCard

/-- THE TIED CARD OF 'galleylaw1.BatchSplits'. -/
def batchSplitsCard : Claim7 := { stood := { row := batchSplitsRow, standIns := [], harness := (true, "813457bc71464434b1a802f7fff12d648295e68a3f5768519c3d5c7367ed3a65"), looks := true }, kinds := [], alts := [], laidByText := true, laidKinds := [.handle], laidTests := true, laidLooks := .later }
def BatchSplitsCardSaid : Prop := Claim7.holds Tryd.pinned (.plain (OpenSpec.ofChange batchSplitsSpec)) batchSplitsCard

/-- THE TIED CARD OF 'galleylaw1.LayerGoes'. -/
def layerGoesCard : Claim7 := { stood := { row := layerGoesRow, standIns := [], harness := (true, "813457bc71464434b1a802f7fff12d648295e68a3f5768519c3d5c7367ed3a65"), looks := true }, kinds := [], alts := [], laidByText := true, laidKinds := [.handle], laidTests := true, laidLooks := .later }
def LayerGoesCardSaid : Prop := Claim7.holds Tryd.pinned (.plain (OpenSpec.ofChange layerGoesSpec)) layerGoesCard

/-- THE TIED CARD OF 'galleylaw1.LayerBacks'. -/
def layerBacksCard : Claim7 := { stood := { row := layerBacksRow, standIns := [], harness := (true, "813457bc71464434b1a802f7fff12d648295e68a3f5768519c3d5c7367ed3a65"), looks := true }, kinds := [], alts := [], laidByText := true, laidKinds := [.handle], laidTests := true, laidLooks := .later }
def LayerBacksCardSaid : Prop := Claim7.holds Tryd.pinned (.plain (OpenSpec.ofChange layerBacksSpec)) layerBacksCard

/-- THE TIED CARD OF 'galleylaw1.NetGoes'. -/
def netGoesCard : Claim7 := { stood := { row := netGoesRow, standIns := [], harness := (true, "813457bc71464434b1a802f7fff12d648295e68a3f5768519c3d5c7367ed3a65"), looks := true }, kinds := [], alts := [], laidByText := true, laidKinds := [.handle], laidTests := true, laidLooks := .later }
def NetGoesCardSaid : Prop := Claim7.holds Tryd.pinned (.plain (OpenSpec.ofChange netGoesSpec)) netGoesCard

/-- THE TIED CARD OF 'galleylaw1.NetBacks'. -/
def netBacksCard : Claim7 := { stood := { row := netBacksRow, standIns := [], harness := (true, "813457bc71464434b1a802f7fff12d648295e68a3f5768519c3d5c7367ed3a65"), looks := true }, kinds := [], alts := [], laidByText := true, laidKinds := [.handle], laidTests := true, laidLooks := .later }
def NetBacksCardSaid : Prop := Claim7.holds Tryd.pinned (.plain (OpenSpec.ofChange netBacksSpec)) netBacksCard

/-- THE TIED CARD OF 'galleylaw1.NetGathers'. -/
def netGathersCard : Claim7 := { stood := { row := netGathersRow, standIns := [], harness := (true, "813457bc71464434b1a802f7fff12d648295e68a3f5768519c3d5c7367ed3a65"), looks := true }, kinds := [], alts := [], laidByText := true, laidKinds := [.handle], laidTests := true, laidLooks := .later }
def NetGathersCardSaid : Prop := Claim7.holds Tryd.pinned (.plain (OpenSpec.ofChange netGathersSpec)) netGathersCard

/-- THE TIED CARD OF 'galleylaw1.StepDoes'. -/
def stepDoesCard : Claim7 := { stood := { row := stepDoesRow, standIns := [], harness := (true, "813457bc71464434b1a802f7fff12d648295e68a3f5768519c3d5c7367ed3a65"), looks := true }, kinds := [], alts := [], laidByText := true, laidKinds := [.handle], laidTests := true, laidLooks := .later }
def StepDoesCardSaid : Prop := Claim7.holds Tryd.pinned (.plain (OpenSpec.ofChange stepDoesSpec)) stepDoesCard

/-- THE SECOND FORM's CARD OF 'galleylaw1.MatStacks'. -/
def matStacksUptoCard : Claim7 := { stood := { row := matStacksUptoRow, standIns := [], harness := (true, "813457bc71464434b1a802f7fff12d648295e68a3f5768519c3d5c7367ed3a65"), looks := true }, kinds := [], alts := [], laidByText := true, laidKinds := [.handle], laidTests := true, laidLooks := .later }
def MatStacksUptoCardSaid : Prop := Claim7.holds Tryd.pinned (.plain (OpenSpec.upto matStacksSpec)) matStacksUptoCard

/-- THE SECOND FORM's CARD OF 'galleylaw1.MatPairs'. -/
def matPairsUptoCard : Claim7 := { stood := { row := matPairsUptoRow, standIns := [], harness := (true, "813457bc71464434b1a802f7fff12d648295e68a3f5768519c3d5c7367ed3a65"), looks := true }, kinds := [], alts := [], laidByText := true, laidKinds := [.handle], laidTests := true, laidLooks := .later }
def MatPairsUptoCardSaid : Prop := Claim7.holds Tryd.pinned (.plain (OpenSpec.upto matPairsSpec)) matPairsUptoCard

/-- THE SECOND FORM's CARD OF 'galleylaw1.MatParts'. -/
def matPartsUptoCard : Claim7 := { stood := { row := matPartsUptoRow, standIns := [], harness := (true, "813457bc71464434b1a802f7fff12d648295e68a3f5768519c3d5c7367ed3a65"), looks := true }, kinds := [], alts := [], laidByText := true, laidKinds := [.handle], laidTests := true, laidLooks := .later }
def MatPartsUptoCardSaid : Prop := Claim7.holds Tryd.pinned (.plain (OpenSpec.upto matPartsSpec)) matPartsUptoCard

/-- THE SECOND FORM's CARD OF 'galleylaw1.LossTells'. -/
def lossTellsUptoCard : Claim7 := { stood := { row := lossTellsUptoRow, standIns := [], harness := (true, "813457bc71464434b1a802f7fff12d648295e68a3f5768519c3d5c7367ed3a65"), looks := true }, kinds := [], alts := [], laidByText := true, laidKinds := [.handle], laidTests := true, laidLooks := .later }
def LossTellsUptoCardSaid : Prop := Claim7.holds Tryd.pinned (.plain (OpenSpec.upto lossTellsSpec)) lossTellsUptoCard

/-- THE SECOND FORM's CARD OF 'galleylaw1.BatchJoins'. -/
def batchJoinsUptoCard : Claim7 := { stood := { row := batchJoinsUptoRow, standIns := [], harness := (true, "813457bc71464434b1a802f7fff12d648295e68a3f5768519c3d5c7367ed3a65"), looks := true }, kinds := [], alts := [], laidByText := true, laidKinds := [.handle], laidTests := true, laidLooks := .later }
def BatchJoinsUptoCardSaid : Prop := Claim7.holds Tryd.pinned (.plain (OpenSpec.upto batchJoinsSpec)) batchJoinsUptoCard

/-- THE SECOND FORM's CARD OF 'galleylaw1.BatchSplits'. -/
def batchSplitsUptoCard : Claim7 := { stood := { row := batchSplitsUptoRow, standIns := [], harness := (true, "813457bc71464434b1a802f7fff12d648295e68a3f5768519c3d5c7367ed3a65"), looks := true }, kinds := [], alts := [], laidByText := true, laidKinds := [.handle], laidTests := true, laidLooks := .later }
def BatchSplitsUptoCardSaid : Prop := Claim7.holds Tryd.pinned (.plain (OpenSpec.upto batchSplitsSpec)) batchSplitsUptoCard

/-- THE SECOND FORM's CARD OF 'galleylaw1.LayerGoes'. -/
def layerGoesUptoCard : Claim7 := { stood := { row := layerGoesUptoRow, standIns := [], harness := (true, "813457bc71464434b1a802f7fff12d648295e68a3f5768519c3d5c7367ed3a65"), looks := true }, kinds := [], alts := [], laidByText := true, laidKinds := [.handle], laidTests := true, laidLooks := .later }
def LayerGoesUptoCardSaid : Prop := Claim7.holds Tryd.pinned (.plain (OpenSpec.upto layerGoesSpec)) layerGoesUptoCard

/-- THE SECOND FORM's CARD OF 'galleylaw1.LayerBacks'. -/
def layerBacksUptoCard : Claim7 := { stood := { row := layerBacksUptoRow, standIns := [], harness := (true, "813457bc71464434b1a802f7fff12d648295e68a3f5768519c3d5c7367ed3a65"), looks := true }, kinds := [], alts := [], laidByText := true, laidKinds := [.handle], laidTests := true, laidLooks := .later }
def LayerBacksUptoCardSaid : Prop := Claim7.holds Tryd.pinned (.plain (OpenSpec.upto layerBacksSpec)) layerBacksUptoCard

/-- THE SECOND FORM's CARD OF 'galleylaw1.NetGoes'. -/
def netGoesUptoCard : Claim7 := { stood := { row := netGoesUptoRow, standIns := [], harness := (true, "813457bc71464434b1a802f7fff12d648295e68a3f5768519c3d5c7367ed3a65"), looks := true }, kinds := [], alts := [], laidByText := true, laidKinds := [.handle], laidTests := true, laidLooks := .later }
def NetGoesUptoCardSaid : Prop := Claim7.holds Tryd.pinned (.plain (OpenSpec.upto netGoesSpec)) netGoesUptoCard

/-- THE SECOND FORM's CARD OF 'galleylaw1.NetBacks'. -/
def netBacksUptoCard : Claim7 := { stood := { row := netBacksUptoRow, standIns := [], harness := (true, "813457bc71464434b1a802f7fff12d648295e68a3f5768519c3d5c7367ed3a65"), looks := true }, kinds := [], alts := [], laidByText := true, laidKinds := [.handle], laidTests := true, laidLooks := .later }
def NetBacksUptoCardSaid : Prop := Claim7.holds Tryd.pinned (.plain (OpenSpec.upto netBacksSpec)) netBacksUptoCard

/-- THE SECOND FORM's CARD OF 'galleylaw1.NetGathers'. -/
def netGathersUptoCard : Claim7 := { stood := { row := netGathersUptoRow, standIns := [], harness := (true, "813457bc71464434b1a802f7fff12d648295e68a3f5768519c3d5c7367ed3a65"), looks := true }, kinds := [], alts := [], laidByText := true, laidKinds := [.handle], laidTests := true, laidLooks := .later }
def NetGathersUptoCardSaid : Prop := Claim7.holds Tryd.pinned (.plain (OpenSpec.upto netGathersSpec)) netGathersUptoCard

/-- THE SECOND FORM's CARD OF 'galleylaw1.StepDoes'. -/
def stepDoesUptoCard : Claim7 := { stood := { row := stepDoesUptoRow, standIns := [], harness := (true, "813457bc71464434b1a802f7fff12d648295e68a3f5768519c3d5c7367ed3a65"), looks := true }, kinds := [], alts := [], laidByText := true, laidKinds := [.handle], laidTests := true, laidLooks := .later }
def StepDoesUptoCardSaid : Prop := Claim7.holds Tryd.pinned (.plain (OpenSpec.upto stepDoesSpec)) stepDoesUptoCard
end Rows
end Go.Proofs.YtopckalgpeapnaaDoor
