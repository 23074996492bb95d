/-
  DERIVED. GIVEN WITH THE SEED: THE CARDS: each row of YtikcdjibflleeaaDoorRows.lean that lists a variable, with what it lists TIED to the program's text (the seventh form; the later family's looks); each row that meets fmt, with fmt's text TOLD by the authors' own Lean function (tested against real Go, not proved from fmt's source: count such statements apart). THE CARD IS WHAT COUNTS. Prove the row's statement (the work); the ties are given (YtikcdjibflleeaaDoorTie.lean); close each card by the builder's one call (the guide's Derived/Test/ToyasCard.lean, 'card_holds'). Laid BY PROGRAM, IN A SANDBOX (cutbox-door.mjs). By AI agents, Wed Nov 11 2026. No macro, syntax, notation, axiom, sorry.
-/
import Derived.Test.YtikcdjibflleeaaDoorRows
import GoSem.ClaimSeven
namespace Go.Proofs.YtikcdjibflleeaaDoor
namespace Rows

/-- THE TIED CARD OF 'galleylaw1.MatStacks'. -/
def matStacksCard : Claim7 := { stood := { row := matStacksRow, standIns := [], harness := (true, "0b159447484318e03634a65451675f66813f9a554bf30320d271c331c0a1551b"), looks := true }, kinds := [], alts := [], laidByText := true, laidKinds := [.handle], laidTests := true, laidLooks := .later }
def MatStacksCardSaid : Prop := Claim7.holds Tryd.pinned (.plain (OpenSpec.ofChange matStacksSpec)) matStacksCard

/-- THE TIED CARD OF 'galleylaw1.NetGathers'. -/
def netGathersCard : Claim7 := { stood := { row := netGathersRow, standIns := [], harness := (true, "0b159447484318e03634a65451675f66813f9a554bf30320d271c331c0a1551b"), looks := true }, kinds := [], alts := [], laidByText := true, laidKinds := [.handle], laidTests := true, laidLooks := .later }
def NetGathersCardSaid : Prop := Claim7.holds Tryd.pinned (.plain (OpenSpec.ofChange netGathersSpec)) netGathersCard

/-- THE TIED CARD OF 'galleylaw1.BatchJoins'. -/
def batchJoinsCard : Claim7 := { stood := { row := batchJoinsRow, standIns := [], harness := (true, "0b159447484318e03634a65451675f66813f9a554bf30320d271c331c0a1551b"), looks := true }, kinds := [], alts := [], laidByText := true, laidKinds := [.handle], laidTests := true, laidLooks := .later }
def BatchJoinsCardSaid : Prop := Claim7.holds Tryd.pinned (.plain (OpenSpec.ofChange batchJoinsSpec)) batchJoinsCard

/-- THE TIED CARD OF 'galleylaw1.StepDoes'. -/
def stepDoesCard : Claim7 := { stood := { row := stepDoesRow, standIns := [], harness := (true, "0b159447484318e03634a65451675f66813f9a554bf30320d271c331c0a1551b"), looks := true }, kinds := [], alts := [], laidByText := true, laidKinds := [.handle], laidTests := true, laidLooks := .later }
def StepDoesCardSaid : Prop := Claim7.holds Tryd.pinned (.plain (OpenSpec.ofChange stepDoesSpec)) stepDoesCard

/-- THE TIED CARD OF 'galleylaw1.NetBacks'. -/
def netBacksCard : Claim7 := { stood := { row := netBacksRow, standIns := [], harness := (true, "0b159447484318e03634a65451675f66813f9a554bf30320d271c331c0a1551b"), looks := true }, kinds := [], alts := [], laidByText := true, laidKinds := [.handle], laidTests := true, laidLooks := .later }
def NetBacksCardSaid : Prop := Claim7.holds Tryd.pinned (.plain (OpenSpec.ofChange netBacksSpec)) netBacksCard

/-- THE SECOND FORM's CARD OF 'galleylaw1.MatStacks'. -/
def matStacksUptoCard : Claim7 := { stood := { row := matStacksUptoRow, standIns := [], harness := (true, "0b159447484318e03634a65451675f66813f9a554bf30320d271c331c0a1551b"), looks := true }, kinds := [], alts := [], laidByText := true, laidKinds := [.handle], laidTests := true, laidLooks := .later }
def MatStacksUptoCardSaid : Prop := Claim7.holds Tryd.pinned (.plain (OpenSpec.upto matStacksSpec)) matStacksUptoCard

/-- THE SECOND FORM's CARD OF 'galleylaw1.NetGathers'. -/
def netGathersUptoCard : Claim7 := { stood := { row := netGathersUptoRow, standIns := [], harness := (true, "0b159447484318e03634a65451675f66813f9a554bf30320d271c331c0a1551b"), looks := true }, kinds := [], alts := [], laidByText := true, laidKinds := [.handle], laidTests := true, laidLooks := .later }
def NetGathersUptoCardSaid : Prop := Claim7.holds Tryd.pinned (.plain (OpenSpec.upto netGathersSpec)) netGathersUptoCard

/-- THE SECOND FORM's CARD OF 'galleylaw1.BatchJoins'. -/
def batchJoinsUptoCard : Claim7 := { stood := { row := batchJoinsUptoRow, standIns := [], harness := (true, "0b159447484318e03634a65451675f66813f9a554bf30320d271c331c0a1551b"), looks := true }, kinds := [], alts := [], laidByText := true, laidKinds := [.handle], laidTests := true, laidLooks := .later }
def BatchJoinsUptoCardSaid : Prop := Claim7.holds Tryd.pinned (.plain (OpenSpec.upto batchJoinsSpec)) batchJoinsUptoCard

/-- THE SECOND FORM's CARD OF 'galleylaw1.StepDoes'. -/
def stepDoesUptoCard : Claim7 := { stood := { row := stepDoesUptoRow, standIns := [], harness := (true, "0b159447484318e03634a65451675f66813f9a554bf30320d271c331c0a1551b"), looks := true }, kinds := [], alts := [], laidByText := true, laidKinds := [.handle], laidTests := true, laidLooks := .later }
def StepDoesUptoCardSaid : Prop := Claim7.holds Tryd.pinned (.plain (OpenSpec.upto stepDoesSpec)) stepDoesUptoCard

/-- THE SECOND FORM's CARD OF 'galleylaw1.NetBacks'. -/
def netBacksUptoCard : Claim7 := { stood := { row := netBacksUptoRow, standIns := [], harness := (true, "0b159447484318e03634a65451675f66813f9a554bf30320d271c331c0a1551b"), looks := true }, kinds := [], alts := [], laidByText := true, laidKinds := [.handle], laidTests := true, laidLooks := .later }
def NetBacksUptoCardSaid : Prop := Claim7.holds Tryd.pinned (.plain (OpenSpec.upto netBacksSpec)) netBacksUptoCard
end Rows
end Go.Proofs.YtikcdjibflleeaaDoor
