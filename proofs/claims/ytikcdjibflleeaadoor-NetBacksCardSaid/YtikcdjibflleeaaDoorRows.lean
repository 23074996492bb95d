/-
  NARROWER THAN 'FOR EVERY INPUT', by the rows' own cells (each row's printed sentence says how): MatStacks: laid · NetGathers: laid · BatchJoins: laid · StepDoes: laid · NetBacks: laid.
  DERIVED. THE GIVEN ROWS OF THIS SEAT. 5 by the template 'for every input the law returns true; each argument reads behind the call as it read before'; 0 by the template 'total and deterministic' (their statements: YtikcdjibflleeaaDoorTotals.lean).
  GIVEN WITH THE SEED: the statements are not yours to turn. If you find one false, say at which input.
  Laid BY PROGRAM, IN A SANDBOX (cutbox-rows.mjs): the forced cells as the released guide's own fill.sh prints them over the translation af98fbd9e8230c87… (all of the seat's roots in one cut). By AI agents, Wed Nov 11 2026. No macro, syntax, notation, axiom, sorry.
-/
import Derived.Test.YtikcdjibflleeaaDoorChecked
import GoSem.Claim
import GoSem.ClaimJoined
import GoSem.ClaimMapViews
import Derived.JoinedTies
import Derived.KernelRfl
namespace Go.Proofs.YtikcdjibflleeaaDoor
/- THE CELL 'sum', in the pinned program and in every row, IS THE sha256 OF THE DUMP (.gsa) THAT YtikcdjibflleeaaDoorProg.lean LOADS. Nothing in Lean hashes anything: it is a label: what it is worth is what the hold of that sum in a sandbox is worth. -/
noncomputable def Tryd.pinned : Pinned := { name := "ytikcdjibflleeaadoor", sum := "af98fbd9e8230c87cb7637835eca98c653297adaebe65d13c8d7f810f244861e", checked := Tryd.checked }
namespace Rows
def none {H : Type} : Left H := { results := [], args := [] }

/- WHAT THE LISTED PACKAGE-LEVEL VARIABLES READ AS WHEN THE CALL BEGINS. Each datum BY PROGRAM (the guide's laid-datum.mjs) off the statement by which the dump's own 'gosem.cut.vars' lays the variable. In a bare row this is a premise. The card (YtikcdjibflleeaaDoorCards.lean) ties it to the program's text. -/
def laid_errors_errorType {H : Type} : DataW H := .iface "internal/reflectlite.rtype" (.agg [.ptr (.lit (.string [101, 114, 114, 111, 114]))])

/-- 'galleylaw1.MatStacks': WHATEVER THE INPUT: true; the input reads as it did. -/
def matStacksSpec : ChangeSpec := { name := "matStacks", fn := fun _ => fun
  | [d] => { results := [.lit (.bool true)], args := [d] }
  | _ => none }
def matStacksRow : OpenClaim := { program := "ytikcdjibflleeaadoor", sum := "af98fbd9e8230c87cb7637835eca98c653297adaebe65d13c8d7f810f244861e", func := "galley/galleylaw1.MatStacks", spec := "matStacks", inPlace := ["internal/reflectlite.ValueOf", "(internal/reflectlite.Value).Type", "(internal/reflectlite.Value).IsNil", "internal/reflectlite.TypeOf", "(internal/reflectlite.Value).Elem", "(internal/reflectlite.Value).Set"], unfollowed := true, recurses := true, named := ["errors.errorType"], apart := false, laid := [("errors.errorType", laid_errors_errorType)] }
def MatStacksSaid : Prop := matStacksRow.holds Tryd.pinned (OpenSpec.ofChange matStacksSpec)

/-- ITS FALSE NEIGHBOUR: 'it returns false'. Refute it at one input. -/
def matStacksWrong : ChangeSpec := { name := "matStacks", fn := fun _ => fun
  | [d] => { results := [.lit (.bool false)], args := [d] }
  | _ => none }
def MatStacksWrongFalsely : Prop := matStacksRow.holds Tryd.pinned (OpenSpec.ofChange matStacksWrong)

/-- 'galleylaw1.NetGathers': WHATEVER THE INPUT: true; the input reads as it did. -/
def netGathersSpec : ChangeSpec := { name := "netGathers", fn := fun _ => fun
  | [d1, d2, d3] => { results := [.lit (.bool true)], args := [d1, d2, d3] }
  | _ => none }
def netGathersRow : OpenClaim := { program := "ytikcdjibflleeaadoor", sum := "af98fbd9e8230c87cb7637835eca98c653297adaebe65d13c8d7f810f244861e", func := "galley/galleylaw1.NetGathers", spec := "netGathers", inPlace := ["internal/reflectlite.ValueOf", "(internal/reflectlite.Value).Type", "(internal/reflectlite.Value).IsNil", "internal/reflectlite.TypeOf", "(internal/reflectlite.Value).Elem", "(internal/reflectlite.Value).Set"], unfollowed := true, recurses := true, named := ["errors.errorType"], apart := false, laid := [("errors.errorType", laid_errors_errorType)] }
def NetGathersSaid : Prop := netGathersRow.holds Tryd.pinned (OpenSpec.ofChange netGathersSpec)

/-- ITS FALSE NEIGHBOUR: 'it returns false'. Refute it at one input. -/
def netGathersWrong : ChangeSpec := { name := "netGathers", fn := fun _ => fun
  | [d1, d2, d3] => { results := [.lit (.bool false)], args := [d1, d2, d3] }
  | _ => none }
def NetGathersWrongFalsely : Prop := netGathersRow.holds Tryd.pinned (OpenSpec.ofChange netGathersWrong)

/-- 'galleylaw1.BatchJoins': WHATEVER THE INPUT: true; the input reads as it did. -/
def batchJoinsSpec : ChangeSpec := { name := "batchJoins", fn := fun _ => fun
  | [d] => { results := [.lit (.bool true)], args := [d] }
  | _ => none }
def batchJoinsRow : OpenClaim := { program := "ytikcdjibflleeaadoor", sum := "af98fbd9e8230c87cb7637835eca98c653297adaebe65d13c8d7f810f244861e", func := "galley/galleylaw1.BatchJoins", spec := "batchJoins", inPlace := ["internal/reflectlite.ValueOf", "(internal/reflectlite.Value).Type", "(internal/reflectlite.Value).IsNil", "internal/reflectlite.TypeOf", "(internal/reflectlite.Value).Elem", "(internal/reflectlite.Value).Set"], unfollowed := true, recurses := true, named := ["errors.errorType"], apart := false, laid := [("errors.errorType", laid_errors_errorType)] }
def BatchJoinsSaid : Prop := batchJoinsRow.holds Tryd.pinned (OpenSpec.ofChange batchJoinsSpec)

/-- ITS FALSE NEIGHBOUR: 'it returns false'. Refute it at one input. -/
def batchJoinsWrong : ChangeSpec := { name := "batchJoins", fn := fun _ => fun
  | [d] => { results := [.lit (.bool false)], args := [d] }
  | _ => none }
def BatchJoinsWrongFalsely : Prop := batchJoinsRow.holds Tryd.pinned (OpenSpec.ofChange batchJoinsWrong)

/-- 'galleylaw1.StepDoes': WHATEVER THE INPUT: true; the input reads as it did. -/
def stepDoesSpec : ChangeSpec := { name := "stepDoes", fn := fun _ => fun
  | [d1, d2, d3, d4] => { results := [.lit (.bool true)], args := [d1, d2, d3, d4] }
  | _ => none }
def stepDoesRow : OpenClaim := { program := "ytikcdjibflleeaadoor", sum := "af98fbd9e8230c87cb7637835eca98c653297adaebe65d13c8d7f810f244861e", func := "galley/galleylaw1.StepDoes", spec := "stepDoes", inPlace := ["internal/reflectlite.ValueOf", "(internal/reflectlite.Value).Type", "(internal/reflectlite.Value).IsNil", "internal/reflectlite.TypeOf", "(internal/reflectlite.Value).Elem", "(internal/reflectlite.Value).Set"], unfollowed := true, recurses := true, named := ["errors.errorType"], apart := false, laid := [("errors.errorType", laid_errors_errorType)] }
def StepDoesSaid : Prop := stepDoesRow.holds Tryd.pinned (OpenSpec.ofChange stepDoesSpec)

/-- ITS FALSE NEIGHBOUR: 'it returns false'. Refute it at one input. -/
def stepDoesWrong : ChangeSpec := { name := "stepDoes", fn := fun _ => fun
  | [d1, d2, d3, d4] => { results := [.lit (.bool false)], args := [d1, d2, d3, d4] }
  | _ => none }
def StepDoesWrongFalsely : Prop := stepDoesRow.holds Tryd.pinned (OpenSpec.ofChange stepDoesWrong)

/-- 'galleylaw1.NetBacks': WHATEVER THE INPUT: true; the input reads as it did. -/
def netBacksSpec : ChangeSpec := { name := "netBacks", fn := fun _ => fun
  | [d1, d2, d3] => { results := [.lit (.bool true)], args := [d1, d2, d3] }
  | _ => none }
def netBacksRow : OpenClaim := { program := "ytikcdjibflleeaadoor", sum := "af98fbd9e8230c87cb7637835eca98c653297adaebe65d13c8d7f810f244861e", func := "galley/galleylaw1.NetBacks", spec := "netBacks", inPlace := ["internal/reflectlite.ValueOf", "(internal/reflectlite.Value).Type", "(internal/reflectlite.Value).IsNil", "internal/reflectlite.TypeOf", "(internal/reflectlite.Value).Elem", "(internal/reflectlite.Value).Set"], unfollowed := true, recurses := true, named := ["errors.errorType"], apart := false, laid := [("errors.errorType", laid_errors_errorType)] }
def NetBacksSaid : Prop := netBacksRow.holds Tryd.pinned (OpenSpec.ofChange netBacksSpec)

/-- ITS FALSE NEIGHBOUR: 'it returns false'. Refute it at one input. -/
def netBacksWrong : ChangeSpec := { name := "netBacks", fn := fun _ => fun
  | [d1, d2, d3] => { results := [.lit (.bool false)], args := [d1, d2, d3] }
  | _ => none }
def NetBacksWrongFalsely : Prop := netBacksRow.holds Tryd.pinned (OpenSpec.ofChange netBacksWrong)

/- THE SECOND FORM. 'bulk': how many values and letters a reading holds, each counted each time it is reached (what is shared counts as often as it is met; a slice's spare places count too). A statement '..UptoSaid' is the law's where the arguments, and the package variables that the reading takes, are together of bulk at most 1048576: NARROWER than '..Said'. Prove '..Said' where nothing that the law and all that it calls make is longer than what came in: it says more and counts as full. Else prove '..UptoSaid'. A law counts once. -/
mutual
def uptoBulk {H : Type} : DataW H → Nat
  | .lit (.string bytes) => bytes.length + 1
  | .lit _ => 1
  | .nil => 1
  | .ptr d => uptoBulk d + 1
  | .slice elems spare => uptoBulkAll elems + uptoBulkAll spare + 1
  | .agg parts => uptoBulkAll parts + 1
  | .iface _ d => uptoBulk d + 1
  | .map entries => uptoBulkEntries entries + 1
  | .held _ => 1
def uptoBulkAll {H : Type} : List (DataW H) → Nat
  | [] => 0
  | d :: r => uptoBulk d + uptoBulkAll r
def uptoBulkEntries {H : Type} : List (Lit × DataW H) → Nat
  | [] => 0
  | x :: r => uptoBulkEntry x + uptoBulkEntries r
def uptoBulkEntry {H : Type} : Lit × DataW H → Nat
  | (.string bytes, d) => bytes.length + uptoBulk d + 1
  | (_, d) => uptoBulk d + 1
 end
def uptoSmall : (H : Type) → List (DataW H) → Bool := fun _ ds => decide (uptoBulkAll ds ≤ 1048576)
def OpenSpec.upto (s : _root_.Go.ChangeSpec) : _root_.Go.OpenSpec := { _root_.Go.OpenSpec.ofChange s with cond := some uptoSmall }

/-- 'galleylaw1.MatStacks', WHERE WHAT IT READS IS OF BULK AT MOST 1048576: true; the input reads as it did. -/
def matStacksUptoRow : OpenClaim := { program := "ytikcdjibflleeaadoor", sum := "af98fbd9e8230c87cb7637835eca98c653297adaebe65d13c8d7f810f244861e", func := "galley/galleylaw1.MatStacks", spec := "matStacks", inPlace := ["internal/reflectlite.ValueOf", "(internal/reflectlite.Value).Type", "(internal/reflectlite.Value).IsNil", "internal/reflectlite.TypeOf", "(internal/reflectlite.Value).Elem", "(internal/reflectlite.Value).Set"], unfollowed := true, recurses := true, named := ["errors.errorType"], apart := false, laid := [("errors.errorType", laid_errors_errorType)], narrowed := true }
def MatStacksUptoSaid : Prop := matStacksUptoRow.holds Tryd.pinned (OpenSpec.upto matStacksSpec)

/-- 'galleylaw1.NetGathers', WHERE WHAT IT READS IS OF BULK AT MOST 1048576: true; the input reads as it did. -/
def netGathersUptoRow : OpenClaim := { program := "ytikcdjibflleeaadoor", sum := "af98fbd9e8230c87cb7637835eca98c653297adaebe65d13c8d7f810f244861e", func := "galley/galleylaw1.NetGathers", spec := "netGathers", inPlace := ["internal/reflectlite.ValueOf", "(internal/reflectlite.Value).Type", "(internal/reflectlite.Value).IsNil", "internal/reflectlite.TypeOf", "(internal/reflectlite.Value).Elem", "(internal/reflectlite.Value).Set"], unfollowed := true, recurses := true, named := ["errors.errorType"], apart := false, laid := [("errors.errorType", laid_errors_errorType)], narrowed := true }
def NetGathersUptoSaid : Prop := netGathersUptoRow.holds Tryd.pinned (OpenSpec.upto netGathersSpec)

/-- 'galleylaw1.BatchJoins', WHERE WHAT IT READS IS OF BULK AT MOST 1048576: true; the input reads as it did. -/
def batchJoinsUptoRow : OpenClaim := { program := "ytikcdjibflleeaadoor", sum := "af98fbd9e8230c87cb7637835eca98c653297adaebe65d13c8d7f810f244861e", func := "galley/galleylaw1.BatchJoins", spec := "batchJoins", inPlace := ["internal/reflectlite.ValueOf", "(internal/reflectlite.Value).Type", "(internal/reflectlite.Value).IsNil", "internal/reflectlite.TypeOf", "(internal/reflectlite.Value).Elem", "(internal/reflectlite.Value).Set"], unfollowed := true, recurses := true, named := ["errors.errorType"], apart := false, laid := [("errors.errorType", laid_errors_errorType)], narrowed := true }
def BatchJoinsUptoSaid : Prop := batchJoinsUptoRow.holds Tryd.pinned (OpenSpec.upto batchJoinsSpec)

/-- 'galleylaw1.StepDoes', WHERE WHAT IT READS IS OF BULK AT MOST 1048576: true; the input reads as it did. -/
def stepDoesUptoRow : OpenClaim := { program := "ytikcdjibflleeaadoor", sum := "af98fbd9e8230c87cb7637835eca98c653297adaebe65d13c8d7f810f244861e", func := "galley/galleylaw1.StepDoes", spec := "stepDoes", inPlace := ["internal/reflectlite.ValueOf", "(internal/reflectlite.Value).Type", "(internal/reflectlite.Value).IsNil", "internal/reflectlite.TypeOf", "(internal/reflectlite.Value).Elem", "(internal/reflectlite.Value).Set"], unfollowed := true, recurses := true, named := ["errors.errorType"], apart := false, laid := [("errors.errorType", laid_errors_errorType)], narrowed := true }
def StepDoesUptoSaid : Prop := stepDoesUptoRow.holds Tryd.pinned (OpenSpec.upto stepDoesSpec)

/-- 'galleylaw1.NetBacks', WHERE WHAT IT READS IS OF BULK AT MOST 1048576: true; the input reads as it did. -/
def netBacksUptoRow : OpenClaim := { program := "ytikcdjibflleeaadoor", sum := "af98fbd9e8230c87cb7637835eca98c653297adaebe65d13c8d7f810f244861e", func := "galley/galleylaw1.NetBacks", spec := "netBacks", inPlace := ["internal/reflectlite.ValueOf", "(internal/reflectlite.Value).Type", "(internal/reflectlite.Value).IsNil", "internal/reflectlite.TypeOf", "(internal/reflectlite.Value).Elem", "(internal/reflectlite.Value).Set"], unfollowed := true, recurses := true, named := ["errors.errorType"], apart := false, laid := [("errors.errorType", laid_errors_errorType)], narrowed := true }
def NetBacksUptoSaid : Prop := netBacksUptoRow.holds Tryd.pinned (OpenSpec.upto netBacksSpec)

end Rows
end Go.Proofs.YtikcdjibflleeaaDoor
