/-
  DERIVED. GIVEN WITH THE SEED: THE CARDS: each row of YtchngeagnlngaaaDoorRows.lean that lists a variable, with what it lists TIED to the program's text (the seventh form; the later family's looks); each row that meets fmt, with fmt's text TOLD by the authors' own Lean function (tested against real Go, not proved from fmt's source: count such statements apart). THE CARD IS WHAT COUNTS. Prove the row's statement (the work); the ties are given (YtchngeagnlngaaaDoorTie.lean); close each card by the builder's one call (the guide's Derived/Test/ToyasCard.lean, 'card_holds'). Laid BY PROGRAM, IN A SANDBOX (cutbox-door.mjs). By AI agents, Wed Nov 11 2026. No macro, syntax, notation, axiom, sorry.
-/
import Derived.Test.YtchngeagnlngaaaDoorRows
import GoSem.ClaimSeven
namespace Go.Proofs.YtchngeagnlngaaaDoor
namespace Rows

/-- THE TIED CARD OF 'galleylaw1.FixTexts'. -/
def fixTextsCard : Claim7 := { stood := { row := fixTextsRow, standIns := [], harness := (true, "5b66164185cb5eb7d131314baef829cbcd7065c52bfd476cee8373d5624665d4"), looks := true }, kinds := [], alts := [], goes := true, laidByText := true, laidKinds := [.data, .data, .data, .handle], laidTests := true, laidLooks := .later }
def FixTextsCardSaid : Prop := Claim7.holds Tryd.pinned (.plain (OpenSpec.ofChange fixTextsSpec)) fixTextsCard

/-- THE TIED CARD OF 'galleylaw1.FixBack'. -/
def fixBackCard : Claim7 := { stood := { row := fixBackRow, standIns := [], harness := (true, "5b66164185cb5eb7d131314baef829cbcd7065c52bfd476cee8373d5624665d4"), looks := true }, kinds := [], alts := [], laidByText := true, laidKinds := [.data, .data, .data], laidTests := true, laidLooks := .later }
def FixBackCardSaid : Prop := Claim7.holds Tryd.pinned (.plain (OpenSpec.ofChange fixBackSpec)) fixBackCard

/-- THE TIED CARD OF 'galleylaw3.RingsSum'. -/
def ringsSumCard : Claim7 := { stood := { row := ringsSumRow, standIns := [], harness := (true, "5b66164185cb5eb7d131314baef829cbcd7065c52bfd476cee8373d5624665d4"), looks := true }, kinds := [], alts := [], goes := true, laidByText := true, laidKinds := [.handle], laidTests := true, laidLooks := .later }
def RingsSumCardSaid : Prop := Claim7.holds Tryd.pinned (.plain (OpenSpec.ofChange ringsSumSpec)) ringsSumCard

/-- THE SECOND FORM's CARD OF 'galleylaw1.FixTexts'. -/
def fixTextsUptoCard : Claim7 := { stood := { row := fixTextsUptoRow, standIns := [], harness := (true, "5b66164185cb5eb7d131314baef829cbcd7065c52bfd476cee8373d5624665d4"), looks := true }, kinds := [], alts := [], goes := true, laidByText := true, laidKinds := [.data, .data, .data, .handle], laidTests := true, laidLooks := .later }
def FixTextsUptoCardSaid : Prop := Claim7.holds Tryd.pinned (.plain (OpenSpec.upto fixTextsSpec)) fixTextsUptoCard

/-- THE SECOND FORM's CARD OF 'galleylaw1.FixBack'. -/
def fixBackUptoCard : Claim7 := { stood := { row := fixBackUptoRow, standIns := [], harness := (true, "5b66164185cb5eb7d131314baef829cbcd7065c52bfd476cee8373d5624665d4"), looks := true }, kinds := [], alts := [], laidByText := true, laidKinds := [.data, .data, .data], laidTests := true, laidLooks := .later }
def FixBackUptoCardSaid : Prop := Claim7.holds Tryd.pinned (.plain (OpenSpec.upto fixBackSpec)) fixBackUptoCard

/-- THE SECOND FORM's CARD OF 'galleylaw3.RingsSum'. -/
def ringsSumUptoCard : Claim7 := { stood := { row := ringsSumUptoRow, standIns := [], harness := (true, "5b66164185cb5eb7d131314baef829cbcd7065c52bfd476cee8373d5624665d4"), looks := true }, kinds := [], alts := [], goes := true, laidByText := true, laidKinds := [.handle], laidTests := true, laidLooks := .later }
def RingsSumUptoCardSaid : Prop := Claim7.holds Tryd.pinned (.plain (OpenSpec.upto ringsSumSpec)) ringsSumUptoCard
end Rows
end Go.Proofs.YtchngeagnlngaaaDoor
