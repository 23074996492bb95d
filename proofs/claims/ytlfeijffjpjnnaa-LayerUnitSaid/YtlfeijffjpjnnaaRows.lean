/-
  No cell of these rows narrows 'for every input' (looked for: loops, veiled, ifaces, maps, wideKeys, modest, calm, conditions, laid).
  DERIVED. THE GIVEN ROWS OF THIS SEAT. 12 by the template 'for every input the law returns true; each argument reads behind the call as it read before'; 0 by the template 'total and deterministic' (their statements: YtlfeijffjpjnnaaTotals.lean).
  GIVEN WITH THE SEED: the statements are not yours to turn. If you find one false, say at which input.
  Laid BY PROGRAM, IN A SANDBOX (cutbox-rows.mjs): the forced cells as the released guide's own fill.sh prints them over the translation c8990a5ed6c86bdb… (all of the seat's roots in one cut). By AI agents, Wed Nov 11 2026. No macro, syntax, notation, axiom, sorry.
-/
import Derived.Test.YtlfeijffjpjnnaaChecked
import GoSem.Claim
import GoSem.ClaimJoined
import GoSem.ClaimMapViews
import Derived.JoinedTies
import Derived.KernelRfl
namespace Go.Proofs.Ytlfeijffjpjnnaa
/- THE CELL 'sum', in the pinned program and in every row, IS THE sha256 OF THE DUMP (.gsa) THAT YtlfeijffjpjnnaaProg.lean LOADS. Nothing in Lean hashes anything: it is a label: what it is worth is what the hold of that sum in a sandbox is worth. -/
noncomputable def Try.pinned : Pinned := { name := "ytlfeijffjpjnnaa", sum := "c8990a5ed6c86bdb1ef9d8828860483d764862b9d30696fc2409d46b9d6420df", checked := Try.checked }
namespace Rows
def none {H : Type} : Left H := { results := [], args := [] }

/-- 'galleylaw1.FixReckons': WHATEVER THE INPUT: true; the input reads as it did. -/
def fixReckonsSpec : ChangeSpec := { name := "fixReckons", fn := fun _ => fun
  | [d1, d2] => { results := [.lit (.bool true)], args := [d1, d2] }
  | _ => none }
def fixReckonsRow : OpenClaim := { program := "ytlfeijffjpjnnaa", sum := "c8990a5ed6c86bdb1ef9d8828860483d764862b9d30696fc2409d46b9d6420df", func := "galley/galleylaw1.FixReckons", spec := "fixReckons", apart := false }
def FixReckonsSaid : Prop := fixReckonsRow.holds Try.pinned (OpenSpec.ofChange fixReckonsSpec)

/-- ITS FALSE NEIGHBOUR: 'it returns false'. Refute it at one input. -/
def fixReckonsWrong : ChangeSpec := { name := "fixReckons", fn := fun _ => fun
  | [d1, d2] => { results := [.lit (.bool false)], args := [d1, d2] }
  | _ => none }
def FixReckonsWrongFalsely : Prop := fixReckonsRow.holds Try.pinned (OpenSpec.ofChange fixReckonsWrong)

/-- 'galleylaw1.Names': WHATEVER THE INPUT: true; the input reads as it did. -/
def namesSpec : ChangeSpec := { name := "names", fn := fun _ => fun
  | [] => { results := [.lit (.bool true)], args := [] }
  | _ => none }
def namesRow : OpenClaim := { program := "ytlfeijffjpjnnaa", sum := "c8990a5ed6c86bdb1ef9d8828860483d764862b9d30696fc2409d46b9d6420df", func := "galley/galleylaw1.Names", spec := "names", apart := false }
def NamesSaid : Prop := namesRow.holds Try.pinned (OpenSpec.ofChange namesSpec)

/-- ITS FALSE NEIGHBOUR: 'it returns false'. Refute it at one input. -/
def namesWrong : ChangeSpec := { name := "names", fn := fun _ => fun
  | [] => { results := [.lit (.bool false)], args := [] }
  | _ => none }
def NamesWrongFalsely : Prop := namesRow.holds Try.pinned (OpenSpec.ofChange namesWrong)

/-- 'galleylaw1.MatUnit': WHATEVER THE INPUT: true; the input reads as it did. -/
def matUnitSpec : ChangeSpec := { name := "matUnit", fn := fun _ => fun
  | [d] => { results := [.lit (.bool true)], args := [d] }
  | _ => none }
def matUnitRow : OpenClaim := { program := "ytlfeijffjpjnnaa", sum := "c8990a5ed6c86bdb1ef9d8828860483d764862b9d30696fc2409d46b9d6420df", func := "galley/galleylaw1.MatUnit", spec := "matUnit", unfollowed := true, recurses := true, apart := false }
def MatUnitSaid : Prop := matUnitRow.holds Try.pinned (OpenSpec.ofChange matUnitSpec)

/-- ITS FALSE NEIGHBOUR: 'it returns false'. Refute it at one input. -/
def matUnitWrong : ChangeSpec := { name := "matUnit", fn := fun _ => fun
  | [d] => { results := [.lit (.bool false)], args := [d] }
  | _ => none }
def MatUnitWrongFalsely : Prop := matUnitRow.holds Try.pinned (OpenSpec.ofChange matUnitWrong)

/-- 'galleylaw1.MatTurns': WHATEVER THE INPUT: true; the input reads as it did. -/
def matTurnsSpec : ChangeSpec := { name := "matTurns", fn := fun _ => fun
  | [d1, d2] => { results := [.lit (.bool true)], args := [d1, d2] }
  | _ => none }
def matTurnsRow : OpenClaim := { program := "ytlfeijffjpjnnaa", sum := "c8990a5ed6c86bdb1ef9d8828860483d764862b9d30696fc2409d46b9d6420df", func := "galley/galleylaw1.MatTurns", spec := "matTurns", unfollowed := true, recurses := true, apart := false }
def MatTurnsSaid : Prop := matTurnsRow.holds Try.pinned (OpenSpec.ofChange matTurnsSpec)

/-- ITS FALSE NEIGHBOUR: 'it returns false'. Refute it at one input. -/
def matTurnsWrong : ChangeSpec := { name := "matTurns", fn := fun _ => fun
  | [d1, d2] => { results := [.lit (.bool false)], args := [d1, d2] }
  | _ => none }
def MatTurnsWrongFalsely : Prop := matTurnsRow.holds Try.pinned (OpenSpec.ofChange matTurnsWrong)

/-- 'galleylaw1.LossNought': WHATEVER THE INPUT: true; the input reads as it did. -/
def lossNoughtSpec : ChangeSpec := { name := "lossNought", fn := fun _ => fun
  | [d1, d2] => { results := [.lit (.bool true)], args := [d1, d2] }
  | _ => none }
def lossNoughtRow : OpenClaim := { program := "ytlfeijffjpjnnaa", sum := "c8990a5ed6c86bdb1ef9d8828860483d764862b9d30696fc2409d46b9d6420df", func := "galley/galleylaw1.LossNought", spec := "lossNought", unfollowed := true, recurses := true, apart := false }
def LossNoughtSaid : Prop := lossNoughtRow.holds Try.pinned (OpenSpec.ofChange lossNoughtSpec)

/-- ITS FALSE NEIGHBOUR: 'it returns false'. Refute it at one input. -/
def lossNoughtWrong : ChangeSpec := { name := "lossNought", fn := fun _ => fun
  | [d1, d2] => { results := [.lit (.bool false)], args := [d1, d2] }
  | _ => none }
def LossNoughtWrongFalsely : Prop := lossNoughtRow.holds Try.pinned (OpenSpec.ofChange lossNoughtWrong)

/-- 'galleylaw1.MatApart': WHATEVER THE INPUT: true; the input reads as it did. -/
def matApartSpec : ChangeSpec := { name := "matApart", fn := fun _ => fun
  | [d1, d2, d3] => { results := [.lit (.bool true)], args := [d1, d2, d3] }
  | _ => none }
def matApartRow : OpenClaim := { program := "ytlfeijffjpjnnaa", sum := "c8990a5ed6c86bdb1ef9d8828860483d764862b9d30696fc2409d46b9d6420df", func := "galley/galleylaw1.MatApart", spec := "matApart", unfollowed := true, recurses := true, apart := false }
def MatApartSaid : Prop := matApartRow.holds Try.pinned (OpenSpec.ofChange matApartSpec)

/-- ITS FALSE NEIGHBOUR: 'it returns false'. Refute it at one input. -/
def matApartWrong : ChangeSpec := { name := "matApart", fn := fun _ => fun
  | [d1, d2, d3] => { results := [.lit (.bool false)], args := [d1, d2, d3] }
  | _ => none }
def MatApartWrongFalsely : Prop := matApartRow.holds Try.pinned (OpenSpec.ofChange matApartWrong)

/-- 'galleylaw1.LayerRelu': WHATEVER THE INPUT: true; the input reads as it did. -/
def layerReluSpec : ChangeSpec := { name := "layerRelu", fn := fun _ => fun
  | [d1, d2] => { results := [.lit (.bool true)], args := [d1, d2] }
  | _ => none }
def layerReluRow : OpenClaim := { program := "ytlfeijffjpjnnaa", sum := "c8990a5ed6c86bdb1ef9d8828860483d764862b9d30696fc2409d46b9d6420df", func := "galley/galleylaw1.LayerRelu", spec := "layerRelu", unfollowed := true, recurses := true, apart := false }
def LayerReluSaid : Prop := layerReluRow.holds Try.pinned (OpenSpec.ofChange layerReluSpec)

/-- ITS FALSE NEIGHBOUR: 'it returns false'. Refute it at one input. -/
def layerReluWrong : ChangeSpec := { name := "layerRelu", fn := fun _ => fun
  | [d1, d2] => { results := [.lit (.bool false)], args := [d1, d2] }
  | _ => none }
def LayerReluWrongFalsely : Prop := layerReluRow.holds Try.pinned (OpenSpec.ofChange layerReluWrong)

/-- 'galleylaw1.LayerUnit': WHATEVER THE INPUT: true; the input reads as it did. -/
def layerUnitSpec : ChangeSpec := { name := "layerUnit", fn := fun _ => fun
  | [d1, d2] => { results := [.lit (.bool true)], args := [d1, d2] }
  | _ => none }
def layerUnitRow : OpenClaim := { program := "ytlfeijffjpjnnaa", sum := "c8990a5ed6c86bdb1ef9d8828860483d764862b9d30696fc2409d46b9d6420df", func := "galley/galleylaw1.LayerUnit", spec := "layerUnit", unfollowed := true, recurses := true, apart := false }
def LayerUnitSaid : Prop := layerUnitRow.holds Try.pinned (OpenSpec.ofChange layerUnitSpec)

/-- ITS FALSE NEIGHBOUR: 'it returns false'. Refute it at one input. -/
def layerUnitWrong : ChangeSpec := { name := "layerUnit", fn := fun _ => fun
  | [d1, d2] => { results := [.lit (.bool false)], args := [d1, d2] }
  | _ => none }
def LayerUnitWrongFalsely : Prop := layerUnitRow.holds Try.pinned (OpenSpec.ofChange layerUnitWrong)

/-- 'galleylaw1.LayerRows': WHATEVER THE INPUT: true; the input reads as it did. -/
def layerRowsSpec : ChangeSpec := { name := "layerRows", fn := fun _ => fun
  | [d1, d2, d3, d4] => { results := [.lit (.bool true)], args := [d1, d2, d3, d4] }
  | _ => none }
def layerRowsRow : OpenClaim := { program := "ytlfeijffjpjnnaa", sum := "c8990a5ed6c86bdb1ef9d8828860483d764862b9d30696fc2409d46b9d6420df", func := "galley/galleylaw1.LayerRows", spec := "layerRows", unfollowed := true, recurses := true, apart := false }
def LayerRowsSaid : Prop := layerRowsRow.holds Try.pinned (OpenSpec.ofChange layerRowsSpec)

/-- ITS FALSE NEIGHBOUR: 'it returns false'. Refute it at one input. -/
def layerRowsWrong : ChangeSpec := { name := "layerRows", fn := fun _ => fun
  | [d1, d2, d3, d4] => { results := [.lit (.bool false)], args := [d1, d2, d3, d4] }
  | _ => none }
def LayerRowsWrongFalsely : Prop := layerRowsRow.holds Try.pinned (OpenSpec.ofChange layerRowsWrong)

/-- 'galleylaw1.StepStays': WHATEVER THE INPUT: true; the input reads as it did. -/
def stepStaysSpec : ChangeSpec := { name := "stepStays", fn := fun _ => fun
  | [d1, d2, d3, d4] => { results := [.lit (.bool true)], args := [d1, d2, d3, d4] }
  | _ => none }
def stepStaysRow : OpenClaim := { program := "ytlfeijffjpjnnaa", sum := "c8990a5ed6c86bdb1ef9d8828860483d764862b9d30696fc2409d46b9d6420df", func := "galley/galleylaw1.StepStays", spec := "stepStays", unfollowed := true, recurses := true, apart := false }
def StepStaysSaid : Prop := stepStaysRow.holds Try.pinned (OpenSpec.ofChange stepStaysSpec)

/-- ITS FALSE NEIGHBOUR: 'it returns false'. Refute it at one input. -/
def stepStaysWrong : ChangeSpec := { name := "stepStays", fn := fun _ => fun
  | [d1, d2, d3, d4] => { results := [.lit (.bool false)], args := [d1, d2, d3, d4] }
  | _ => none }
def StepStaysWrongFalsely : Prop := stepStaysRow.holds Try.pinned (OpenSpec.ofChange stepStaysWrong)

/-- 'galleylaw1.BatchBack': WHATEVER THE INPUT: true; the input reads as it did. -/
def batchBackSpec : ChangeSpec := { name := "batchBack", fn := fun _ => fun
  | [d1, d2] => { results := [.lit (.bool true)], args := [d1, d2] }
  | _ => none }
def batchBackRow : OpenClaim := { program := "ytlfeijffjpjnnaa", sum := "c8990a5ed6c86bdb1ef9d8828860483d764862b9d30696fc2409d46b9d6420df", func := "galley/galleylaw1.BatchBack", spec := "batchBack", apart := false }
def BatchBackSaid : Prop := batchBackRow.holds Try.pinned (OpenSpec.ofChange batchBackSpec)

/-- ITS FALSE NEIGHBOUR: 'it returns false'. Refute it at one input. -/
def batchBackWrong : ChangeSpec := { name := "batchBack", fn := fun _ => fun
  | [d1, d2] => { results := [.lit (.bool false)], args := [d1, d2] }
  | _ => none }
def BatchBackWrongFalsely : Prop := batchBackRow.holds Try.pinned (OpenSpec.ofChange batchBackWrong)

/-- 'galleylaw1.NetJoins': WHATEVER THE INPUT: true; the input reads as it did. -/
def netJoinsSpec : ChangeSpec := { name := "netJoins", fn := fun _ => fun
  | [d1, d2, d3, d4] => { results := [.lit (.bool true)], args := [d1, d2, d3, d4] }
  | _ => none }
def netJoinsRow : OpenClaim := { program := "ytlfeijffjpjnnaa", sum := "c8990a5ed6c86bdb1ef9d8828860483d764862b9d30696fc2409d46b9d6420df", func := "galley/galleylaw1.NetJoins", spec := "netJoins", unfollowed := true, recurses := true, apart := false }
def NetJoinsSaid : Prop := netJoinsRow.holds Try.pinned (OpenSpec.ofChange netJoinsSpec)

/-- ITS FALSE NEIGHBOUR: 'it returns false'. Refute it at one input. -/
def netJoinsWrong : ChangeSpec := { name := "netJoins", fn := fun _ => fun
  | [d1, d2, d3, d4] => { results := [.lit (.bool false)], args := [d1, d2, d3, d4] }
  | _ => none }
def NetJoinsWrongFalsely : Prop := netJoinsRow.holds Try.pinned (OpenSpec.ofChange netJoinsWrong)

/- THE SECOND FORM. 'bulk': how many values and letters a reading holds, each counted each time it is reached (what is shared counts as often as it is met; a slice's spare places count too). A statement '..UptoSaid' is the law's where the arguments, and the package variables that the reading takes, are together of bulk at most 1048576: NARROWER than '..Said'. Prove '..Said' where nothing that the law and all that it calls make is longer than what came in: it says more and counts as full. Else prove '..UptoSaid'. A law counts once. -/
mutual
def uptoBulk {H : Type} : DataW H → Nat
  | .lit (.string bytes) => bytes.length + 1
  | .lit _ => 1
  | .nil => 1
  | .ptr d => uptoBulk d + 1
  | .slice elems spare => uptoBulkAll elems + uptoBulkAll spare + 1
  | .agg parts => uptoBulkAll parts + 1
  | .iface _ d => uptoBulk d + 1
  | .map entries => uptoBulkEntries entries + 1
  | .held _ => 1
def uptoBulkAll {H : Type} : List (DataW H) → Nat
  | [] => 0
  | d :: r => uptoBulk d + uptoBulkAll r
def uptoBulkEntries {H : Type} : List (Lit × DataW H) → Nat
  | [] => 0
  | x :: r => uptoBulkEntry x + uptoBulkEntries r
def uptoBulkEntry {H : Type} : Lit × DataW H → Nat
  | (.string bytes, d) => bytes.length + uptoBulk d + 1
  | (_, d) => uptoBulk d + 1
 end
def uptoSmall : (H : Type) → List (DataW H) → Bool := fun _ ds => decide (uptoBulkAll ds ≤ 1048576)
def OpenSpec.upto (s : _root_.Go.ChangeSpec) : _root_.Go.OpenSpec := { _root_.Go.OpenSpec.ofChange s with cond := some uptoSmall }

/-- 'galleylaw1.FixReckons', WHERE WHAT IT READS IS OF BULK AT MOST 1048576: true; the input reads as it did. -/
def fixReckonsUptoRow : OpenClaim := { program := "ytlfeijffjpjnnaa", sum := "c8990a5ed6c86bdb1ef9d8828860483d764862b9d30696fc2409d46b9d6420df", func := "galley/galleylaw1.FixReckons", spec := "fixReckons", apart := false, narrowed := true }
def FixReckonsUptoSaid : Prop := fixReckonsUptoRow.holds Try.pinned (OpenSpec.upto fixReckonsSpec)

/-- 'galleylaw1.Names', WHERE WHAT IT READS IS OF BULK AT MOST 1048576: true; the input reads as it did. -/
def namesUptoRow : OpenClaim := { program := "ytlfeijffjpjnnaa", sum := "c8990a5ed6c86bdb1ef9d8828860483d764862b9d30696fc2409d46b9d6420df", func := "galley/galleylaw1.Names", spec := "names", apart := false, narrowed := true }
def NamesUptoSaid : Prop := namesUptoRow.holds Try.pinned (OpenSpec.upto namesSpec)

/-- 'galleylaw1.MatUnit', WHERE WHAT IT READS IS OF BULK AT MOST 1048576: true; the input reads as it did. -/
def matUnitUptoRow : OpenClaim := { program := "ytlfeijffjpjnnaa", sum := "c8990a5ed6c86bdb1ef9d8828860483d764862b9d30696fc2409d46b9d6420df", func := "galley/galleylaw1.MatUnit", spec := "matUnit", unfollowed := true, recurses := true, apart := false, narrowed := true }
def MatUnitUptoSaid : Prop := matUnitUptoRow.holds Try.pinned (OpenSpec.upto matUnitSpec)

/-- 'galleylaw1.MatTurns', WHERE WHAT IT READS IS OF BULK AT MOST 1048576: true; the input reads as it did. -/
def matTurnsUptoRow : OpenClaim := { program := "ytlfeijffjpjnnaa", sum := "c8990a5ed6c86bdb1ef9d8828860483d764862b9d30696fc2409d46b9d6420df", func := "galley/galleylaw1.MatTurns", spec := "matTurns", unfollowed := true, recurses := true, apart := false, narrowed := true }
def MatTurnsUptoSaid : Prop := matTurnsUptoRow.holds Try.pinned (OpenSpec.upto matTurnsSpec)

/-- 'galleylaw1.LossNought', WHERE WHAT IT READS IS OF BULK AT MOST 1048576: true; the input reads as it did. -/
def lossNoughtUptoRow : OpenClaim := { program := "ytlfeijffjpjnnaa", sum := "c8990a5ed6c86bdb1ef9d8828860483d764862b9d30696fc2409d46b9d6420df", func := "galley/galleylaw1.LossNought", spec := "lossNought", unfollowed := true, recurses := true, apart := false, narrowed := true }
def LossNoughtUptoSaid : Prop := lossNoughtUptoRow.holds Try.pinned (OpenSpec.upto lossNoughtSpec)

/-- 'galleylaw1.MatApart', WHERE WHAT IT READS IS OF BULK AT MOST 1048576: true; the input reads as it did. -/
def matApartUptoRow : OpenClaim := { program := "ytlfeijffjpjnnaa", sum := "c8990a5ed6c86bdb1ef9d8828860483d764862b9d30696fc2409d46b9d6420df", func := "galley/galleylaw1.MatApart", spec := "matApart", unfollowed := true, recurses := true, apart := false, narrowed := true }
def MatApartUptoSaid : Prop := matApartUptoRow.holds Try.pinned (OpenSpec.upto matApartSpec)

/-- 'galleylaw1.LayerRelu', WHERE WHAT IT READS IS OF BULK AT MOST 1048576: true; the input reads as it did. -/
def layerReluUptoRow : OpenClaim := { program := "ytlfeijffjpjnnaa", sum := "c8990a5ed6c86bdb1ef9d8828860483d764862b9d30696fc2409d46b9d6420df", func := "galley/galleylaw1.LayerRelu", spec := "layerRelu", unfollowed := true, recurses := true, apart := false, narrowed := true }
def LayerReluUptoSaid : Prop := layerReluUptoRow.holds Try.pinned (OpenSpec.upto layerReluSpec)

/-- 'galleylaw1.LayerUnit', WHERE WHAT IT READS IS OF BULK AT MOST 1048576: true; the input reads as it did. -/
def layerUnitUptoRow : OpenClaim := { program := "ytlfeijffjpjnnaa", sum := "c8990a5ed6c86bdb1ef9d8828860483d764862b9d30696fc2409d46b9d6420df", func := "galley/galleylaw1.LayerUnit", spec := "layerUnit", unfollowed := true, recurses := true, apart := false, narrowed := true }
def LayerUnitUptoSaid : Prop := layerUnitUptoRow.holds Try.pinned (OpenSpec.upto layerUnitSpec)

/-- 'galleylaw1.LayerRows', WHERE WHAT IT READS IS OF BULK AT MOST 1048576: true; the input reads as it did. -/
def layerRowsUptoRow : OpenClaim := { program := "ytlfeijffjpjnnaa", sum := "c8990a5ed6c86bdb1ef9d8828860483d764862b9d30696fc2409d46b9d6420df", func := "galley/galleylaw1.LayerRows", spec := "layerRows", unfollowed := true, recurses := true, apart := false, narrowed := true }
def LayerRowsUptoSaid : Prop := layerRowsUptoRow.holds Try.pinned (OpenSpec.upto layerRowsSpec)

/-- 'galleylaw1.StepStays', WHERE WHAT IT READS IS OF BULK AT MOST 1048576: true; the input reads as it did. -/
def stepStaysUptoRow : OpenClaim := { program := "ytlfeijffjpjnnaa", sum := "c8990a5ed6c86bdb1ef9d8828860483d764862b9d30696fc2409d46b9d6420df", func := "galley/galleylaw1.StepStays", spec := "stepStays", unfollowed := true, recurses := true, apart := false, narrowed := true }
def StepStaysUptoSaid : Prop := stepStaysUptoRow.holds Try.pinned (OpenSpec.upto stepStaysSpec)

/-- 'galleylaw1.BatchBack', WHERE WHAT IT READS IS OF BULK AT MOST 1048576: true; the input reads as it did. -/
def batchBackUptoRow : OpenClaim := { program := "ytlfeijffjpjnnaa", sum := "c8990a5ed6c86bdb1ef9d8828860483d764862b9d30696fc2409d46b9d6420df", func := "galley/galleylaw1.BatchBack", spec := "batchBack", apart := false, narrowed := true }
def BatchBackUptoSaid : Prop := batchBackUptoRow.holds Try.pinned (OpenSpec.upto batchBackSpec)

/-- 'galleylaw1.NetJoins', WHERE WHAT IT READS IS OF BULK AT MOST 1048576: true; the input reads as it did. -/
def netJoinsUptoRow : OpenClaim := { program := "ytlfeijffjpjnnaa", sum := "c8990a5ed6c86bdb1ef9d8828860483d764862b9d30696fc2409d46b9d6420df", func := "galley/galleylaw1.NetJoins", spec := "netJoins", unfollowed := true, recurses := true, apart := false, narrowed := true }
def NetJoinsUptoSaid : Prop := netJoinsUptoRow.holds Try.pinned (OpenSpec.upto netJoinsSpec)

end Rows
end Go.Proofs.Ytlfeijffjpjnnaa
