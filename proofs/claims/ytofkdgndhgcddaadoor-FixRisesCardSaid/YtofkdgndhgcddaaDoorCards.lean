/-
  DERIVED. GIVEN WITH THE SEED: THE CARDS: each row of YtofkdgndhgcddaaDoorRows.lean that lists a variable, with what it lists TIED to the program's text (the seventh form; the later family's looks); each row that meets fmt, with fmt's text TOLD by the authors' own Lean function (tested against real Go, not proved from fmt's source: count such statements apart). THE CARD IS WHAT COUNTS. Prove the row's statement (the work); the ties are given (YtofkdgndhgcddaaDoorTie.lean); close each card by the builder's one call (the guide's Derived/Test/ToyasCard.lean, 'card_holds'). Laid BY PROGRAM, IN A SANDBOX (cutbox-door.mjs). By AI agents, Wed Nov 11 2026. No macro, syntax, notation, axiom, sorry.
-/
import Derived.Test.YtofkdgndhgcddaaDoorRows
import GoSem.ClaimSeven
namespace Go.Proofs.YtofkdgndhgcddaaDoor
namespace Rows

/-- THE TIED CARD OF 'galleylaw1.FixSwaps'. -/
def fixSwapsCard : Claim7 := { stood := { row := fixSwapsRow, standIns := [], harness := (true, "d689b5fbf95d5372afdafd8e4cc0e2e4fab1359e8303d22710a3e97b02bbfc2a"), looks := false }, kinds := [], alts := [], laidByText := true, laidKinds := [.data, .data, .data], laidTests := true, laidLooks := .later }
def FixSwapsCardSaid : Prop := Claim7.holds Tryd.pinned (.plain (OpenSpec.ofChange fixSwapsSpec)) fixSwapsCard

/-- THE TIED CARD OF 'galleylaw1.FixRises'. -/
def fixRisesCard : Claim7 := { stood := { row := fixRisesRow, standIns := [], harness := (true, "d689b5fbf95d5372afdafd8e4cc0e2e4fab1359e8303d22710a3e97b02bbfc2a"), looks := false }, kinds := [], alts := [], laidByText := true, laidKinds := [.data, .data, .data], laidTests := true, laidLooks := .later }
def FixRisesCardSaid : Prop := Claim7.holds Tryd.pinned (.plain (OpenSpec.ofChange fixRisesSpec)) fixRisesCard

/-- THE TIED CARD OF 'galleylaw1.FixBack'. -/
def fixBackCard : Claim7 := { stood := { row := fixBackRow, standIns := [], harness := (true, "d689b5fbf95d5372afdafd8e4cc0e2e4fab1359e8303d22710a3e97b02bbfc2a"), looks := false }, kinds := [], alts := [], laidByText := true, laidKinds := [.data, .data, .data], laidTests := true, laidLooks := .later }
def FixBackCardSaid : Prop := Claim7.holds Tryd.pinned (.plain (OpenSpec.ofChange fixBackSpec)) fixBackCard

/-- THE SECOND FORM's CARD OF 'galleylaw1.FixSwaps'. -/
def fixSwapsUptoCard : Claim7 := { stood := { row := fixSwapsUptoRow, standIns := [], harness := (true, "d689b5fbf95d5372afdafd8e4cc0e2e4fab1359e8303d22710a3e97b02bbfc2a"), looks := false }, kinds := [], alts := [], laidByText := true, laidKinds := [.data, .data, .data], laidTests := true, laidLooks := .later }
def FixSwapsUptoCardSaid : Prop := Claim7.holds Tryd.pinned (.plain (OpenSpec.upto fixSwapsSpec)) fixSwapsUptoCard

/-- THE SECOND FORM's CARD OF 'galleylaw1.FixRises'. -/
def fixRisesUptoCard : Claim7 := { stood := { row := fixRisesUptoRow, standIns := [], harness := (true, "d689b5fbf95d5372afdafd8e4cc0e2e4fab1359e8303d22710a3e97b02bbfc2a"), looks := false }, kinds := [], alts := [], laidByText := true, laidKinds := [.data, .data, .data], laidTests := true, laidLooks := .later }
def FixRisesUptoCardSaid : Prop := Claim7.holds Tryd.pinned (.plain (OpenSpec.upto fixRisesSpec)) fixRisesUptoCard

/-- THE SECOND FORM's CARD OF 'galleylaw1.FixBack'. -/
def fixBackUptoCard : Claim7 := { stood := { row := fixBackUptoRow, standIns := [], harness := (true, "d689b5fbf95d5372afdafd8e4cc0e2e4fab1359e8303d22710a3e97b02bbfc2a"), looks := false }, kinds := [], alts := [], laidByText := true, laidKinds := [.data, .data, .data], laidTests := true, laidLooks := .later }
def FixBackUptoCardSaid : Prop := Claim7.holds Tryd.pinned (.plain (OpenSpec.upto fixBackSpec)) fixBackUptoCard
end Rows
end Go.Proofs.YtofkdgndhgcddaaDoor
