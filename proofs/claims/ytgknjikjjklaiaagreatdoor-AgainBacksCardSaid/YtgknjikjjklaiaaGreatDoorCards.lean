/-
  DERIVED. GIVEN WITH THE SEED: THE CARDS: each row of YtgknjikjjklaiaaGreatDoorRows.lean that lists a variable, with what it lists TIED to the program's text (the seventh form; the later family's looks); each row that meets fmt, with fmt's text TOLD by the authors' own Lean function (tested against real Go, not proved from fmt's source: count such statements apart). THE CARD IS WHAT COUNTS. Prove the row's statement (the work); the ties are given (YtgknjikjjklaiaaGreatDoorTie.lean); close each card by the builder's one call (the guide's Derived/Test/ToyasCard.lean, 'card_holds'). Laid BY PROGRAM, IN A SANDBOX (cutbox-door.mjs). By AI agents, Wed Nov 11 2026. No macro, syntax, notation, axiom, sorry.
-/
import Derived.Test.YtgknjikjjklaiaaGreatDoorRows
import GoSem.ClaimSeven
namespace Go.Proofs.YtgknjikjjklaiaaGreatDoor
namespace Rows

/-- THE TIED CARD OF 'galleylaw3.AgainBacks'. -/
def againBacksCard : Claim7 := { stood := { row := againBacksRow, standIns := [], harness := (true, "2ad6066dec9bcb90abacb01252b496712f388bcae9452e86260b38a61c9c15e5"), looks := true }, kinds := [], alts := [], laidByText := true, laidKinds := [.handle], laidTests := true, laidLooks := .later }
def AgainBacksCardSaid : Prop := Claim7.holds Tryz.pinned (.plain (OpenSpec.ofChange againBacksSpec)) againBacksCard

/-- THE TIED CARD OF 'galleylaw1.TrainOnes'. -/
def trainOnesCard : Claim7 := { stood := { row := trainOnesRow, standIns := [], harness := (true, "2ad6066dec9bcb90abacb01252b496712f388bcae9452e86260b38a61c9c15e5"), looks := true }, kinds := [], alts := [], laidByText := true, laidKinds := [.handle], laidTests := true, laidLooks := .later }
def TrainOnesCardSaid : Prop := Claim7.holds Tryz.pinned (.plain (OpenSpec.ofChange trainOnesSpec)) trainOnesCard

/-- THE TIED CARD OF 'galleylaw1.TrainAlls'. -/
def trainAllsCard : Claim7 := { stood := { row := trainAllsRow, standIns := [], harness := (true, "2ad6066dec9bcb90abacb01252b496712f388bcae9452e86260b38a61c9c15e5"), looks := true }, kinds := [], alts := [], laidByText := true, laidKinds := [.handle], laidTests := true, laidLooks := .later }
def TrainAllsCardSaid : Prop := Claim7.holds Tryz.pinned (.plain (OpenSpec.ofChange trainAllsSpec)) trainAllsCard

/-- THE SECOND FORM's CARD OF 'galleylaw3.AgainBacks'. -/
def againBacksUptoCard : Claim7 := { stood := { row := againBacksUptoRow, standIns := [], harness := (true, "2ad6066dec9bcb90abacb01252b496712f388bcae9452e86260b38a61c9c15e5"), looks := true }, kinds := [], alts := [], laidByText := true, laidKinds := [.handle], laidTests := true, laidLooks := .later }
def AgainBacksUptoCardSaid : Prop := Claim7.holds Tryz.pinned (.plain (OpenSpec.upto againBacksSpec)) againBacksUptoCard

/-- THE SECOND FORM's CARD OF 'galleylaw1.TrainOnes'. -/
def trainOnesUptoCard : Claim7 := { stood := { row := trainOnesUptoRow, standIns := [], harness := (true, "2ad6066dec9bcb90abacb01252b496712f388bcae9452e86260b38a61c9c15e5"), looks := true }, kinds := [], alts := [], laidByText := true, laidKinds := [.handle], laidTests := true, laidLooks := .later }
def TrainOnesUptoCardSaid : Prop := Claim7.holds Tryz.pinned (.plain (OpenSpec.upto trainOnesSpec)) trainOnesUptoCard

/-- THE SECOND FORM's CARD OF 'galleylaw1.TrainAlls'. -/
def trainAllsUptoCard : Claim7 := { stood := { row := trainAllsUptoRow, standIns := [], harness := (true, "2ad6066dec9bcb90abacb01252b496712f388bcae9452e86260b38a61c9c15e5"), looks := true }, kinds := [], alts := [], laidByText := true, laidKinds := [.handle], laidTests := true, laidLooks := .later }
def TrainAllsUptoCardSaid : Prop := Claim7.holds Tryz.pinned (.plain (OpenSpec.upto trainAllsSpec)) trainAllsUptoCard
end Rows
end Go.Proofs.YtgknjikjjklaiaaGreatDoor
