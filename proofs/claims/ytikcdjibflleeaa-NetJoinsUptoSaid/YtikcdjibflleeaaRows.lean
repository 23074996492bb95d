/-
  No cell of these rows narrows 'for every input' (looked for: loops, veiled, ifaces, maps, wideKeys, modest, calm, conditions, laid).
  DERIVED. THE GIVEN ROWS OF THIS SEAT. 3 by the template 'for every input the law returns true; each argument reads behind the call as it read before'; 0 by the template 'total and deterministic' (their statements: YtikcdjibflleeaaTotals.lean).
  GIVEN WITH THE SEED: the statements are not yours to turn. If you find one false, say at which input.
  Laid BY PROGRAM, IN A SANDBOX (cutbox-rows.mjs): the forced cells as the released guide's own fill.sh prints them over the translation c4a6c11e5fc808e6… (all of the seat's roots in one cut). By AI agents, Wed Nov 11 2026. No macro, syntax, notation, axiom, sorry.
-/
import Derived.Test.YtikcdjibflleeaaChecked
import GoSem.Claim
import GoSem.ClaimJoined
import GoSem.ClaimMapViews
import Derived.JoinedTies
import Derived.KernelRfl
namespace Go.Proofs.Ytikcdjibflleeaa
/- THE CELL 'sum', in the pinned program and in every row, IS THE sha256 OF THE DUMP (.gsa) THAT YtikcdjibflleeaaProg.lean LOADS. Nothing in Lean hashes anything: it is a label: what it is worth is what the hold of that sum in a sandbox is worth. -/
noncomputable def Try.pinned : Pinned := { name := "ytikcdjibflleeaa", sum := "c4a6c11e5fc808e6d3b540b6a885827d60d01f7b9618289ab49deb94fd0da532", checked := Try.checked }
namespace Rows
def none {H : Type} : Left H := { results := [], args := [] }

/-- 'galleylaw1.StepStays': WHATEVER THE INPUT: true; the input reads as it did. -/
def stepStaysSpec : ChangeSpec := { name := "stepStays", fn := fun _ => fun
  | [d1, d2, d3, d4] => { results := [.lit (.bool true)], args := [d1, d2, d3, d4] }
  | _ => none }
def stepStaysRow : OpenClaim := { program := "ytikcdjibflleeaa", sum := "c4a6c11e5fc808e6d3b540b6a885827d60d01f7b9618289ab49deb94fd0da532", func := "galley/galleylaw1.StepStays", spec := "stepStays", unfollowed := true, recurses := true, apart := false }
def StepStaysSaid : Prop := stepStaysRow.holds Try.pinned (OpenSpec.ofChange stepStaysSpec)

/-- ITS FALSE NEIGHBOUR: 'it returns false'. Refute it at one input. -/
def stepStaysWrong : ChangeSpec := { name := "stepStays", fn := fun _ => fun
  | [d1, d2, d3, d4] => { results := [.lit (.bool false)], args := [d1, d2, d3, d4] }
  | _ => none }
def StepStaysWrongFalsely : Prop := stepStaysRow.holds Try.pinned (OpenSpec.ofChange stepStaysWrong)

/-- 'galleylaw1.BatchBack': WHATEVER THE INPUT: true; the input reads as it did. -/
def batchBackSpec : ChangeSpec := { name := "batchBack", fn := fun _ => fun
  | [d1, d2] => { results := [.lit (.bool true)], args := [d1, d2] }
  | _ => none }
def batchBackRow : OpenClaim := { program := "ytikcdjibflleeaa", sum := "c4a6c11e5fc808e6d3b540b6a885827d60d01f7b9618289ab49deb94fd0da532", func := "galley/galleylaw1.BatchBack", spec := "batchBack", apart := false }
def BatchBackSaid : Prop := batchBackRow.holds Try.pinned (OpenSpec.ofChange batchBackSpec)

/-- ITS FALSE NEIGHBOUR: 'it returns false'. Refute it at one input. -/
def batchBackWrong : ChangeSpec := { name := "batchBack", fn := fun _ => fun
  | [d1, d2] => { results := [.lit (.bool false)], args := [d1, d2] }
  | _ => none }
def BatchBackWrongFalsely : Prop := batchBackRow.holds Try.pinned (OpenSpec.ofChange batchBackWrong)

/-- 'galleylaw1.NetJoins': WHATEVER THE INPUT: true; the input reads as it did. -/
def netJoinsSpec : ChangeSpec := { name := "netJoins", fn := fun _ => fun
  | [d1, d2, d3, d4] => { results := [.lit (.bool true)], args := [d1, d2, d3, d4] }
  | _ => none }
def netJoinsRow : OpenClaim := { program := "ytikcdjibflleeaa", sum := "c4a6c11e5fc808e6d3b540b6a885827d60d01f7b9618289ab49deb94fd0da532", func := "galley/galleylaw1.NetJoins", spec := "netJoins", unfollowed := true, recurses := true, apart := false }
def NetJoinsSaid : Prop := netJoinsRow.holds Try.pinned (OpenSpec.ofChange netJoinsSpec)

/-- ITS FALSE NEIGHBOUR: 'it returns false'. Refute it at one input. -/
def netJoinsWrong : ChangeSpec := { name := "netJoins", fn := fun _ => fun
  | [d1, d2, d3, d4] => { results := [.lit (.bool false)], args := [d1, d2, d3, d4] }
  | _ => none }
def NetJoinsWrongFalsely : Prop := netJoinsRow.holds Try.pinned (OpenSpec.ofChange netJoinsWrong)

/- THE SECOND FORM. 'bulk': how many values and letters a reading holds, each counted each time it is reached (what is shared counts as often as it is met; a slice's spare places count too). A statement '..UptoSaid' is the law's where the arguments, and the package variables that the reading takes, are together of bulk at most 1048576: NARROWER than '..Said'. Prove '..Said' where nothing that the law and all that it calls make is longer than what came in: it says more and counts as full. Else prove '..UptoSaid'. A law counts once. -/
mutual
def uptoBulk {H : Type} : DataW H → Nat
  | .lit (.string bytes) => bytes.length + 1
  | .lit _ => 1
  | .nil => 1
  | .ptr d => uptoBulk d + 1
  | .slice elems spare => uptoBulkAll elems + uptoBulkAll spare + 1
  | .agg parts => uptoBulkAll parts + 1
  | .iface _ d => uptoBulk d + 1
  | .map entries => uptoBulkEntries entries + 1
  | .held _ => 1
def uptoBulkAll {H : Type} : List (DataW H) → Nat
  | [] => 0
  | d :: r => uptoBulk d + uptoBulkAll r
def uptoBulkEntries {H : Type} : List (Lit × DataW H) → Nat
  | [] => 0
  | x :: r => uptoBulkEntry x + uptoBulkEntries r
def uptoBulkEntry {H : Type} : Lit × DataW H → Nat
  | (.string bytes, d) => bytes.length + uptoBulk d + 1
  | (_, d) => uptoBulk d + 1
 end
def uptoSmall : (H : Type) → List (DataW H) → Bool := fun _ ds => decide (uptoBulkAll ds ≤ 1048576)
def OpenSpec.upto (s : _root_.Go.ChangeSpec) : _root_.Go.OpenSpec := { _root_.Go.OpenSpec.ofChange s with cond := some uptoSmall }

/-- 'galleylaw1.StepStays', WHERE WHAT IT READS IS OF BULK AT MOST 1048576: true; the input reads as it did. -/
def stepStaysUptoRow : OpenClaim := { program := "ytikcdjibflleeaa", sum := "c4a6c11e5fc808e6d3b540b6a885827d60d01f7b9618289ab49deb94fd0da532", func := "galley/galleylaw1.StepStays", spec := "stepStays", unfollowed := true, recurses := true, apart := false, narrowed := true }
def StepStaysUptoSaid : Prop := stepStaysUptoRow.holds Try.pinned (OpenSpec.upto stepStaysSpec)

/-- 'galleylaw1.BatchBack', WHERE WHAT IT READS IS OF BULK AT MOST 1048576: true; the input reads as it did. -/
def batchBackUptoRow : OpenClaim := { program := "ytikcdjibflleeaa", sum := "c4a6c11e5fc808e6d3b540b6a885827d60d01f7b9618289ab49deb94fd0da532", func := "galley/galleylaw1.BatchBack", spec := "batchBack", apart := false, narrowed := true }
def BatchBackUptoSaid : Prop := batchBackUptoRow.holds Try.pinned (OpenSpec.upto batchBackSpec)

/-- 'galleylaw1.NetJoins', WHERE WHAT IT READS IS OF BULK AT MOST 1048576: true; the input reads as it did. -/
def netJoinsUptoRow : OpenClaim := { program := "ytikcdjibflleeaa", sum := "c4a6c11e5fc808e6d3b540b6a885827d60d01f7b9618289ab49deb94fd0da532", func := "galley/galleylaw1.NetJoins", spec := "netJoins", unfollowed := true, recurses := true, apart := false, narrowed := true }
def NetJoinsUptoSaid : Prop := netJoinsUptoRow.holds Try.pinned (OpenSpec.upto netJoinsSpec)

end Rows
end Go.Proofs.Ytikcdjibflleeaa
