/-
  DERIVED. GIVEN WITH THE SEED: THE CARDS: each row of YtgknjikjjklaiaaDoorRows.lean that lists a variable, with what it lists TIED to the program's text (the seventh form; the later family's looks); each row that meets fmt, with fmt's text TOLD by the authors' own Lean function (tested against real Go, not proved from fmt's source: count such statements apart). THE CARD IS WHAT COUNTS. Prove the row's statement (the work); the ties are given (YtgknjikjjklaiaaDoorTie.lean); close each card by the builder's one call (the guide's Derived/Test/ToyasCard.lean, 'card_holds'). Laid BY PROGRAM, IN A SANDBOX (cutbox-door.mjs). By AI agents, Wed Nov 11 2026. No macro, syntax, notation, axiom, sorry.
-/
import Derived.Test.YtgknjikjjklaiaaDoorRows
import GoSem.ClaimSeven
namespace Go.Proofs.YtgknjikjjklaiaaDoor
namespace Rows

/-- THE TIED CARD OF 'galleylaw2.WireEncodes'. -/
def wireEncodesCard : Claim7 := { stood := { row := wireEncodesRow, standIns := [], harness := (true, "e32b120c2d95c2668c3e14ef00434170de31102dd7bc5e7488dda63a9499452a"), looks := true }, kinds := [], alts := [], laidByText := true, laidKinds := [.handle], laidTests := true, laidLooks := .later }
def WireEncodesCardSaid : Prop := Claim7.holds Tryd.pinned (.plain (OpenSpec.ofChange wireEncodesSpec)) wireEncodesCard

/-- THE TIED CARD OF 'galleylaw2.MailPlays'. -/
def mailPlaysCard : Claim7 := { stood := { row := mailPlaysRow, standIns := [], harness := (true, "e32b120c2d95c2668c3e14ef00434170de31102dd7bc5e7488dda63a9499452a"), looks := true }, kinds := [], alts := [], laidByText := true, laidKinds := [.handle], laidTests := true, laidLooks := .later }
def MailPlaysCardSaid : Prop := Claim7.holds Tryd.pinned (.plain (OpenSpec.ofChange mailPlaysSpec)) mailPlaysCard

/-- THE TIED CARD OF 'galleylaw2.WireDecodes'. -/
def wireDecodesCard : Claim7 := { stood := { row := wireDecodesRow, standIns := [], harness := (true, "e32b120c2d95c2668c3e14ef00434170de31102dd7bc5e7488dda63a9499452a"), looks := true }, kinds := [], alts := [], laidByText := true, laidKinds := [.handle], laidTests := true, laidLooks := .later }
def WireDecodesCardSaid : Prop := Claim7.holds Tryd.pinned (.plain (OpenSpec.ofChange wireDecodesSpec)) wireDecodesCard

/-- THE TIED CARD OF 'galleylaw2.WireBack'. -/
def wireBackCard : Claim7 := { stood := { row := wireBackRow, standIns := [], harness := (true, "e32b120c2d95c2668c3e14ef00434170de31102dd7bc5e7488dda63a9499452a"), looks := true }, kinds := [], alts := [], laidByText := true, laidKinds := [.handle], laidTests := true, laidLooks := .later }
def WireBackCardSaid : Prop := Claim7.holds Tryd.pinned (.plain (OpenSpec.ofChange wireBackSpec)) wireBackCard

/-- THE TIED CARD OF 'galleylaw3.KeepSaves'. -/
def keepSavesCard : Claim7 := { stood := { row := keepSavesRow, standIns := [], harness := (true, "e32b120c2d95c2668c3e14ef00434170de31102dd7bc5e7488dda63a9499452a"), looks := true }, kinds := [], alts := [], laidByText := true, laidKinds := [.handle], laidTests := true, laidLooks := .later }
def KeepSavesCardSaid : Prop := Claim7.holds Tryd.pinned (.plain (OpenSpec.ofChange keepSavesSpec)) keepSavesCard

/-- THE TIED CARD OF 'galleylaw3.KeepLoads'. -/
def keepLoadsCard : Claim7 := { stood := { row := keepLoadsRow, standIns := [], harness := (true, "e32b120c2d95c2668c3e14ef00434170de31102dd7bc5e7488dda63a9499452a"), looks := true }, kinds := [], alts := [], laidByText := true, laidKinds := [.handle, .sentinel], laidTests := true, laidLooks := .later }
def KeepLoadsCardSaid : Prop := Claim7.holds Tryd.pinned (.plain (OpenSpec.ofChange keepLoadsSpec)) keepLoadsCard

/-- THE SECOND FORM's CARD OF 'galleylaw2.WireEncodes'. -/
def wireEncodesUptoCard : Claim7 := { stood := { row := wireEncodesUptoRow, standIns := [], harness := (true, "e32b120c2d95c2668c3e14ef00434170de31102dd7bc5e7488dda63a9499452a"), looks := true }, kinds := [], alts := [], laidByText := true, laidKinds := [.handle], laidTests := true, laidLooks := .later }
def WireEncodesUptoCardSaid : Prop := Claim7.holds Tryd.pinned (.plain (OpenSpec.upto wireEncodesSpec)) wireEncodesUptoCard

/-- THE SECOND FORM's CARD OF 'galleylaw2.MailPlays'. -/
def mailPlaysUptoCard : Claim7 := { stood := { row := mailPlaysUptoRow, standIns := [], harness := (true, "e32b120c2d95c2668c3e14ef00434170de31102dd7bc5e7488dda63a9499452a"), looks := true }, kinds := [], alts := [], laidByText := true, laidKinds := [.handle], laidTests := true, laidLooks := .later }
def MailPlaysUptoCardSaid : Prop := Claim7.holds Tryd.pinned (.plain (OpenSpec.upto mailPlaysSpec)) mailPlaysUptoCard

/-- THE SECOND FORM's CARD OF 'galleylaw2.WireDecodes'. -/
def wireDecodesUptoCard : Claim7 := { stood := { row := wireDecodesUptoRow, standIns := [], harness := (true, "e32b120c2d95c2668c3e14ef00434170de31102dd7bc5e7488dda63a9499452a"), looks := true }, kinds := [], alts := [], laidByText := true, laidKinds := [.handle], laidTests := true, laidLooks := .later }
def WireDecodesUptoCardSaid : Prop := Claim7.holds Tryd.pinned (.plain (OpenSpec.upto wireDecodesSpec)) wireDecodesUptoCard

/-- THE SECOND FORM's CARD OF 'galleylaw2.WireBack'. -/
def wireBackUptoCard : Claim7 := { stood := { row := wireBackUptoRow, standIns := [], harness := (true, "e32b120c2d95c2668c3e14ef00434170de31102dd7bc5e7488dda63a9499452a"), looks := true }, kinds := [], alts := [], laidByText := true, laidKinds := [.handle], laidTests := true, laidLooks := .later }
def WireBackUptoCardSaid : Prop := Claim7.holds Tryd.pinned (.plain (OpenSpec.upto wireBackSpec)) wireBackUptoCard

/-- THE SECOND FORM's CARD OF 'galleylaw3.KeepSaves'. -/
def keepSavesUptoCard : Claim7 := { stood := { row := keepSavesUptoRow, standIns := [], harness := (true, "e32b120c2d95c2668c3e14ef00434170de31102dd7bc5e7488dda63a9499452a"), looks := true }, kinds := [], alts := [], laidByText := true, laidKinds := [.handle], laidTests := true, laidLooks := .later }
def KeepSavesUptoCardSaid : Prop := Claim7.holds Tryd.pinned (.plain (OpenSpec.upto keepSavesSpec)) keepSavesUptoCard

/-- THE SECOND FORM's CARD OF 'galleylaw3.KeepLoads'. -/
def keepLoadsUptoCard : Claim7 := { stood := { row := keepLoadsUptoRow, standIns := [], harness := (true, "e32b120c2d95c2668c3e14ef00434170de31102dd7bc5e7488dda63a9499452a"), looks := true }, kinds := [], alts := [], laidByText := true, laidKinds := [.handle, .sentinel], laidTests := true, laidLooks := .later }
def KeepLoadsUptoCardSaid : Prop := Claim7.holds Tryd.pinned (.plain (OpenSpec.upto keepLoadsSpec)) keepLoadsUptoCard
end Rows
end Go.Proofs.YtgknjikjjklaiaaDoor
