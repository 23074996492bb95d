/-
  No cell of these rows narrows 'for every input' (looked for: loops, veiled, ifaces, maps, wideKeys, modest, calm, conditions, laid).
  DERIVED. THE GIVEN ROWS OF THIS SEAT. 6 by the template 'for every input the law returns true; each argument reads behind the call as it read before'; 0 by the template 'total and deterministic' (their statements: YtjaepdkeldgikaaTotals.lean).
  GIVEN WITH THE SEED: the statements are not yours to turn. If you find one false, say at which input.
  Laid BY PROGRAM, IN A SANDBOX (cutbox-rows.mjs): the forced cells as the released guide's own fill.sh prints them over the translation 04dd2e7f6382881b… (all of the seat's roots in one cut). By AI agents, Wed Nov 11 2026. No macro, syntax, notation, axiom, sorry.
-/
import Derived.Test.YtjaepdkeldgikaaChecked
import GoSem.Claim
import GoSem.ClaimJoined
import GoSem.ClaimMapViews
import Derived.JoinedTies
import Derived.KernelRfl
namespace Go.Proofs.Ytjaepdkeldgikaa
/- THE CELL 'sum', in the pinned program and in every row, IS THE sha256 OF THE DUMP (.gsa) THAT YtjaepdkeldgikaaProg.lean LOADS. Nothing in Lean hashes anything: it is a label: what it is worth is what the hold of that sum in a sandbox is worth. -/
noncomputable def Try.pinned : Pinned := { name := "ytjaepdkeldgikaa", sum := "04dd2e7f6382881b347d97bdc37f7ac1a1439695c9b9fb82e57c10941502537e", checked := Try.checked }
namespace Rows
def none {H : Type} : Left H := { results := [], args := [] }

/-- 'galleylaw2.PlanSwaps': WHATEVER THE INPUT: true; the input reads as it did. -/
def planSwapsSpec : ChangeSpec := { name := "planSwaps", fn := fun _ => fun
  | [d1, d2, d3] => { results := [.lit (.bool true)], args := [d1, d2, d3] }
  | _ => none }
def planSwapsRow : OpenClaim := { program := "ytjaepdkeldgikaa", sum := "04dd2e7f6382881b347d97bdc37f7ac1a1439695c9b9fb82e57c10941502537e", func := "galley/galleylaw2.PlanSwaps", spec := "planSwaps", unfollowed := true, recurses := true, plainKeys := false, apart := false }
def PlanSwapsSaid : Prop := planSwapsRow.holds Try.pinned (OpenSpec.ofChange planSwapsSpec)

/-- ITS FALSE NEIGHBOUR: 'it returns false'. Refute it at one input. -/
def planSwapsWrong : ChangeSpec := { name := "planSwaps", fn := fun _ => fun
  | [d1, d2, d3] => { results := [.lit (.bool false)], args := [d1, d2, d3] }
  | _ => none }
def PlanSwapsWrongFalsely : Prop := planSwapsRow.holds Try.pinned (OpenSpec.ofChange planSwapsWrong)

/-- 'galleylaw2.PlanDone': WHATEVER THE INPUT: true; the input reads as it did. -/
def planDoneSpec : ChangeSpec := { name := "planDone", fn := fun _ => fun
  | [d1, d2] => { results := [.lit (.bool true)], args := [d1, d2] }
  | _ => none }
def planDoneRow : OpenClaim := { program := "ytjaepdkeldgikaa", sum := "04dd2e7f6382881b347d97bdc37f7ac1a1439695c9b9fb82e57c10941502537e", func := "galley/galleylaw2.PlanDone", spec := "planDone", unfollowed := true, recurses := true, plainKeys := false, apart := false }
def PlanDoneSaid : Prop := planDoneRow.holds Try.pinned (OpenSpec.ofChange planDoneSpec)

/-- ITS FALSE NEIGHBOUR: 'it returns false'. Refute it at one input. -/
def planDoneWrong : ChangeSpec := { name := "planDone", fn := fun _ => fun
  | [d1, d2] => { results := [.lit (.bool false)], args := [d1, d2] }
  | _ => none }
def PlanDoneWrongFalsely : Prop := planDoneRow.holds Try.pinned (OpenSpec.ofChange planDoneWrong)

/-- 'galleylaw2.CutBest': WHATEVER THE INPUT: true; the input reads as it did. -/
def cutBestSpec : ChangeSpec := { name := "cutBest", fn := fun _ => fun
  | [d1, d2, d3] => { results := [.lit (.bool true)], args := [d1, d2, d3] }
  | _ => none }
def cutBestRow : OpenClaim := { program := "ytjaepdkeldgikaa", sum := "04dd2e7f6382881b347d97bdc37f7ac1a1439695c9b9fb82e57c10941502537e", func := "galley/galleylaw2.CutBest", spec := "cutBest", unfollowed := true, recurses := true, plainKeys := false, apart := false }
def CutBestSaid : Prop := cutBestRow.holds Try.pinned (OpenSpec.ofChange cutBestSpec)

/-- ITS FALSE NEIGHBOUR: 'it returns false'. Refute it at one input. -/
def cutBestWrong : ChangeSpec := { name := "cutBest", fn := fun _ => fun
  | [d1, d2, d3] => { results := [.lit (.bool false)], args := [d1, d2, d3] }
  | _ => none }
def CutBestWrongFalsely : Prop := cutBestRow.holds Try.pinned (OpenSpec.ofChange cutBestWrong)

/-- 'galleylaw2.PeakTurns': WHATEVER THE INPUT: true; the input reads as it did. -/
def peakTurnsSpec : ChangeSpec := { name := "peakTurns", fn := fun _ => fun
  | [d1, d2] => { results := [.lit (.bool true)], args := [d1, d2] }
  | _ => none }
def peakTurnsRow : OpenClaim := { program := "ytjaepdkeldgikaa", sum := "04dd2e7f6382881b347d97bdc37f7ac1a1439695c9b9fb82e57c10941502537e", func := "galley/galleylaw2.PeakTurns", spec := "peakTurns", unfollowed := true, recurses := true, plainKeys := false, apart := false }
def PeakTurnsSaid : Prop := peakTurnsRow.holds Try.pinned (OpenSpec.ofChange peakTurnsSpec)

/-- ITS FALSE NEIGHBOUR: 'it returns false'. Refute it at one input. -/
def peakTurnsWrong : ChangeSpec := { name := "peakTurns", fn := fun _ => fun
  | [d1, d2] => { results := [.lit (.bool false)], args := [d1, d2] }
  | _ => none }
def PeakTurnsWrongFalsely : Prop := peakTurnsRow.holds Try.pinned (OpenSpec.ofChange peakTurnsWrong)

/-- 'galleylaw2.ClockLeast': WHATEVER THE INPUT: true; the input reads as it did. -/
def clockLeastSpec : ChangeSpec := { name := "clockLeast", fn := fun _ => fun
  | [d1, d2, d3, d4] => { results := [.lit (.bool true)], args := [d1, d2, d3, d4] }
  | _ => none }
def clockLeastRow : OpenClaim := { program := "ytjaepdkeldgikaa", sum := "04dd2e7f6382881b347d97bdc37f7ac1a1439695c9b9fb82e57c10941502537e", func := "galley/galleylaw2.ClockLeast", spec := "clockLeast", unfollowed := true, recurses := true, plainKeys := false, apart := false }
def ClockLeastSaid : Prop := clockLeastRow.holds Try.pinned (OpenSpec.ofChange clockLeastSpec)

/-- ITS FALSE NEIGHBOUR: 'it returns false'. Refute it at one input. -/
def clockLeastWrong : ChangeSpec := { name := "clockLeast", fn := fun _ => fun
  | [d1, d2, d3, d4] => { results := [.lit (.bool false)], args := [d1, d2, d3, d4] }
  | _ => none }
def ClockLeastWrongFalsely : Prop := clockLeastRow.holds Try.pinned (OpenSpec.ofChange clockLeastWrong)

/-- 'galleylaw2.ClockBubble': WHATEVER THE INPUT: true; the input reads as it did. -/
def clockBubbleSpec : ChangeSpec := { name := "clockBubble", fn := fun _ => fun
  | [d1, d2, d3, d4] => { results := [.lit (.bool true)], args := [d1, d2, d3, d4] }
  | _ => none }
def clockBubbleRow : OpenClaim := { program := "ytjaepdkeldgikaa", sum := "04dd2e7f6382881b347d97bdc37f7ac1a1439695c9b9fb82e57c10941502537e", func := "galley/galleylaw2.ClockBubble", spec := "clockBubble", unfollowed := true, recurses := true, plainKeys := false, apart := false }
def ClockBubbleSaid : Prop := clockBubbleRow.holds Try.pinned (OpenSpec.ofChange clockBubbleSpec)

/-- ITS FALSE NEIGHBOUR: 'it returns false'. Refute it at one input. -/
def clockBubbleWrong : ChangeSpec := { name := "clockBubble", fn := fun _ => fun
  | [d1, d2, d3, d4] => { results := [.lit (.bool false)], args := [d1, d2, d3, d4] }
  | _ => none }
def ClockBubbleWrongFalsely : Prop := clockBubbleRow.holds Try.pinned (OpenSpec.ofChange clockBubbleWrong)

/- THE SECOND FORM. 'bulk': how many values and letters a reading holds, each counted each time it is reached (what is shared counts as often as it is met; a slice's spare places count too). A statement '..UptoSaid' is the law's where the arguments, and the package variables that the reading takes, are together of bulk at most 1048576: NARROWER than '..Said'. Prove '..Said' where nothing that the law and all that it calls make is longer than what came in: it says more and counts as full. Else prove '..UptoSaid'. A law counts once. -/
mutual
def uptoBulk {H : Type} : DataW H → Nat
  | .lit (.string bytes) => bytes.length + 1
  | .lit _ => 1
  | .nil => 1
  | .ptr d => uptoBulk d + 1
  | .slice elems spare => uptoBulkAll elems + uptoBulkAll spare + 1
  | .agg parts => uptoBulkAll parts + 1
  | .iface _ d => uptoBulk d + 1
  | .map entries => uptoBulkEntries entries + 1
  | .held _ => 1
def uptoBulkAll {H : Type} : List (DataW H) → Nat
  | [] => 0
  | d :: r => uptoBulk d + uptoBulkAll r
def uptoBulkEntries {H : Type} : List (Lit × DataW H) → Nat
  | [] => 0
  | x :: r => uptoBulkEntry x + uptoBulkEntries r
def uptoBulkEntry {H : Type} : Lit × DataW H → Nat
  | (.string bytes, d) => bytes.length + uptoBulk d + 1
  | (_, d) => uptoBulk d + 1
 end
def uptoSmall : (H : Type) → List (DataW H) → Bool := fun _ ds => decide (uptoBulkAll ds ≤ 1048576)
def OpenSpec.upto (s : _root_.Go.ChangeSpec) : _root_.Go.OpenSpec := { _root_.Go.OpenSpec.ofChange s with cond := some uptoSmall }

/-- 'galleylaw2.PlanSwaps', WHERE WHAT IT READS IS OF BULK AT MOST 1048576: true; the input reads as it did. -/
def planSwapsUptoRow : OpenClaim := { program := "ytjaepdkeldgikaa", sum := "04dd2e7f6382881b347d97bdc37f7ac1a1439695c9b9fb82e57c10941502537e", func := "galley/galleylaw2.PlanSwaps", spec := "planSwaps", unfollowed := true, recurses := true, plainKeys := false, apart := false, narrowed := true }
def PlanSwapsUptoSaid : Prop := planSwapsUptoRow.holds Try.pinned (OpenSpec.upto planSwapsSpec)

/-- 'galleylaw2.PlanDone', WHERE WHAT IT READS IS OF BULK AT MOST 1048576: true; the input reads as it did. -/
def planDoneUptoRow : OpenClaim := { program := "ytjaepdkeldgikaa", sum := "04dd2e7f6382881b347d97bdc37f7ac1a1439695c9b9fb82e57c10941502537e", func := "galley/galleylaw2.PlanDone", spec := "planDone", unfollowed := true, recurses := true, plainKeys := false, apart := false, narrowed := true }
def PlanDoneUptoSaid : Prop := planDoneUptoRow.holds Try.pinned (OpenSpec.upto planDoneSpec)

/-- 'galleylaw2.CutBest', WHERE WHAT IT READS IS OF BULK AT MOST 1048576: true; the input reads as it did. -/
def cutBestUptoRow : OpenClaim := { program := "ytjaepdkeldgikaa", sum := "04dd2e7f6382881b347d97bdc37f7ac1a1439695c9b9fb82e57c10941502537e", func := "galley/galleylaw2.CutBest", spec := "cutBest", unfollowed := true, recurses := true, plainKeys := false, apart := false, narrowed := true }
def CutBestUptoSaid : Prop := cutBestUptoRow.holds Try.pinned (OpenSpec.upto cutBestSpec)

/-- 'galleylaw2.PeakTurns', WHERE WHAT IT READS IS OF BULK AT MOST 1048576: true; the input reads as it did. -/
def peakTurnsUptoRow : OpenClaim := { program := "ytjaepdkeldgikaa", sum := "04dd2e7f6382881b347d97bdc37f7ac1a1439695c9b9fb82e57c10941502537e", func := "galley/galleylaw2.PeakTurns", spec := "peakTurns", unfollowed := true, recurses := true, plainKeys := false, apart := false, narrowed := true }
def PeakTurnsUptoSaid : Prop := peakTurnsUptoRow.holds Try.pinned (OpenSpec.upto peakTurnsSpec)

/-- 'galleylaw2.ClockLeast', WHERE WHAT IT READS IS OF BULK AT MOST 1048576: true; the input reads as it did. -/
def clockLeastUptoRow : OpenClaim := { program := "ytjaepdkeldgikaa", sum := "04dd2e7f6382881b347d97bdc37f7ac1a1439695c9b9fb82e57c10941502537e", func := "galley/galleylaw2.ClockLeast", spec := "clockLeast", unfollowed := true, recurses := true, plainKeys := false, apart := false, narrowed := true }
def ClockLeastUptoSaid : Prop := clockLeastUptoRow.holds Try.pinned (OpenSpec.upto clockLeastSpec)

/-- 'galleylaw2.ClockBubble', WHERE WHAT IT READS IS OF BULK AT MOST 1048576: true; the input reads as it did. -/
def clockBubbleUptoRow : OpenClaim := { program := "ytjaepdkeldgikaa", sum := "04dd2e7f6382881b347d97bdc37f7ac1a1439695c9b9fb82e57c10941502537e", func := "galley/galleylaw2.ClockBubble", spec := "clockBubble", unfollowed := true, recurses := true, plainKeys := false, apart := false, narrowed := true }
def ClockBubbleUptoSaid : Prop := clockBubbleUptoRow.holds Try.pinned (OpenSpec.upto clockBubbleSpec)

end Rows
end Go.Proofs.Ytjaepdkeldgikaa
