/-
  No cell of these rows narrows 'for every input' (looked for: loops, veiled, ifaces, maps, wideKeys, modest, calm, conditions, laid).
  DERIVED. THE GIVEN ROWS OF THIS SEAT. 13 by the template 'for every input the law returns true; each argument reads behind the call as it read before'; 0 by the template 'total and deterministic' (their statements: YtjiafgnibhgfbaaTotals.lean).
  GIVEN WITH THE SEED: the statements are not yours to turn. If you find one false, say at which input.
  Laid BY PROGRAM, IN A SANDBOX (cutbox-rows.mjs): the forced cells as the released guide's own fill.sh prints them over the translation 66fcf04d257d916d… (all of the seat's roots in one cut). By AI agents, Wed Nov 11 2026. No macro, syntax, notation, axiom, sorry.
-/
import Derived.Test.YtjiafgnibhgfbaaChecked
import GoSem.Claim
import GoSem.ClaimJoined
import GoSem.ClaimMapViews
import Derived.JoinedTies
import Derived.KernelRfl
namespace Go.Proofs.Ytjiafgnibhgfbaa
/- THE CELL 'sum', in the pinned program and in every row, IS THE sha256 OF THE DUMP (.gsa) THAT YtjiafgnibhgfbaaProg.lean LOADS. Nothing in Lean hashes anything: it is a label: what it is worth is what the hold of that sum in a sandbox is worth. -/
noncomputable def Try.pinned : Pinned := { name := "ytjiafgnibhgfbaa", sum := "66fcf04d257d916d45ac1cdd1ef9d2315f57ec87d8278ea9a4db404abfb701da", checked := Try.checked }
namespace Rows
def none {H : Type} : Left H := { results := [], args := [] }

/-- 'battledorelaw02.TurtleTurns': WHATEVER THE INPUT: true; the input reads as it did. -/
def turtleTurnsSpec : ChangeSpec := { name := "turtleTurns", fn := fun _ => fun
  | [d1, d2, d3] => { results := [.lit (.bool true)], args := [d1, d2, d3] }
  | _ => none }
def turtleTurnsRow : OpenClaim := { program := "ytjiafgnibhgfbaa", sum := "66fcf04d257d916d45ac1cdd1ef9d2315f57ec87d8278ea9a4db404abfb701da", func := "battledore/battledorelaw02.TurtleTurns", spec := "turtleTurns", apart := false }
def TurtleTurnsSaid : Prop := turtleTurnsRow.holds Try.pinned (OpenSpec.ofChange turtleTurnsSpec)

/-- ITS FALSE NEIGHBOUR: 'it returns false'. Refute it at one input. -/
def turtleTurnsWrong : ChangeSpec := { name := "turtleTurns", fn := fun _ => fun
  | [d1, d2, d3] => { results := [.lit (.bool false)], args := [d1, d2, d3] }
  | _ => none }
def TurtleTurnsWrongFalsely : Prop := turtleTurnsRow.holds Try.pinned (OpenSpec.ofChange turtleTurnsWrong)

/-- 'battledorelaw02.TurtleErrs': WHATEVER THE INPUT: true; the input reads as it did. -/
def turtleErrsSpec : ChangeSpec := { name := "turtleErrs", fn := fun _ => fun
  | [d1, d2, d3] => { results := [.lit (.bool true)], args := [d1, d2, d3] }
  | _ => none }
def turtleErrsRow : OpenClaim := { program := "ytjiafgnibhgfbaa", sum := "66fcf04d257d916d45ac1cdd1ef9d2315f57ec87d8278ea9a4db404abfb701da", func := "battledore/battledorelaw02.TurtleErrs", spec := "turtleErrs", apart := false }
def TurtleErrsSaid : Prop := turtleErrsRow.holds Try.pinned (OpenSpec.ofChange turtleErrsSpec)

/-- ITS FALSE NEIGHBOUR: 'it returns false'. Refute it at one input. -/
def turtleErrsWrong : ChangeSpec := { name := "turtleErrs", fn := fun _ => fun
  | [d1, d2, d3] => { results := [.lit (.bool false)], args := [d1, d2, d3] }
  | _ => none }
def TurtleErrsWrongFalsely : Prop := turtleErrsRow.holds Try.pinned (OpenSpec.ofChange turtleErrsWrong)

/-- 'battledorelaw01.OctetOrder': WHATEVER THE INPUT: true; the input reads as it did. -/
def octetOrderSpec : ChangeSpec := { name := "octetOrder", fn := fun _ => fun
  | [d1, d2] => { results := [.lit (.bool true)], args := [d1, d2] }
  | _ => none }
def octetOrderRow : OpenClaim := { program := "ytjiafgnibhgfbaa", sum := "66fcf04d257d916d45ac1cdd1ef9d2315f57ec87d8278ea9a4db404abfb701da", func := "battledore/battledorelaw01.OctetOrder", spec := "octetOrder", apart := false }
def OctetOrderSaid : Prop := octetOrderRow.holds Try.pinned (OpenSpec.ofChange octetOrderSpec)

/-- ITS FALSE NEIGHBOUR: 'it returns false'. Refute it at one input. -/
def octetOrderWrong : ChangeSpec := { name := "octetOrder", fn := fun _ => fun
  | [d1, d2] => { results := [.lit (.bool false)], args := [d1, d2] }
  | _ => none }
def OctetOrderWrongFalsely : Prop := octetOrderRow.holds Try.pinned (OpenSpec.ofChange octetOrderWrong)

/-- 'battledorelaw02.TurtleJoins': WHATEVER THE INPUT: true; the input reads as it did. -/
def turtleJoinsSpec : ChangeSpec := { name := "turtleJoins", fn := fun _ => fun
  | [d1, d2] => { results := [.lit (.bool true)], args := [d1, d2] }
  | _ => none }
def turtleJoinsRow : OpenClaim := { program := "ytjiafgnibhgfbaa", sum := "66fcf04d257d916d45ac1cdd1ef9d2315f57ec87d8278ea9a4db404abfb701da", func := "battledore/battledorelaw02.TurtleJoins", spec := "turtleJoins", apart := false }
def TurtleJoinsSaid : Prop := turtleJoinsRow.holds Try.pinned (OpenSpec.ofChange turtleJoinsSpec)

/-- ITS FALSE NEIGHBOUR: 'it returns false'. Refute it at one input. -/
def turtleJoinsWrong : ChangeSpec := { name := "turtleJoins", fn := fun _ => fun
  | [d1, d2] => { results := [.lit (.bool false)], args := [d1, d2] }
  | _ => none }
def TurtleJoinsWrongFalsely : Prop := turtleJoinsRow.holds Try.pinned (OpenSpec.ofChange turtleJoinsWrong)

/-- 'battledorelaw01.OctetDone': WHATEVER THE INPUT: true; the input reads as it did. -/
def octetDoneSpec : ChangeSpec := { name := "octetDone", fn := fun _ => fun
  | [d1, d2] => { results := [.lit (.bool true)], args := [d1, d2] }
  | _ => none }
def octetDoneRow : OpenClaim := { program := "ytjiafgnibhgfbaa", sum := "66fcf04d257d916d45ac1cdd1ef9d2315f57ec87d8278ea9a4db404abfb701da", func := "battledore/battledorelaw01.OctetDone", spec := "octetDone", apart := false }
def OctetDoneSaid : Prop := octetDoneRow.holds Try.pinned (OpenSpec.ofChange octetDoneSpec)

/-- ITS FALSE NEIGHBOUR: 'it returns false'. Refute it at one input. -/
def octetDoneWrong : ChangeSpec := { name := "octetDone", fn := fun _ => fun
  | [d1, d2] => { results := [.lit (.bool false)], args := [d1, d2] }
  | _ => none }
def OctetDoneWrongFalsely : Prop := octetDoneRow.holds Try.pinned (OpenSpec.ofChange octetDoneWrong)

/-- 'battledorelaw02.TurtleFours': WHATEVER THE INPUT: true; the input reads as it did. -/
def turtleFoursSpec : ChangeSpec := { name := "turtleFours", fn := fun _ => fun
  | [d] => { results := [.lit (.bool true)], args := [d] }
  | _ => none }
def turtleFoursRow : OpenClaim := { program := "ytjiafgnibhgfbaa", sum := "66fcf04d257d916d45ac1cdd1ef9d2315f57ec87d8278ea9a4db404abfb701da", func := "battledore/battledorelaw02.TurtleFours", spec := "turtleFours", apart := false }
def TurtleFoursSaid : Prop := turtleFoursRow.holds Try.pinned (OpenSpec.ofChange turtleFoursSpec)

/-- ITS FALSE NEIGHBOUR: 'it returns false'. Refute it at one input. -/
def turtleFoursWrong : ChangeSpec := { name := "turtleFours", fn := fun _ => fun
  | [d] => { results := [.lit (.bool false)], args := [d] }
  | _ => none }
def TurtleFoursWrongFalsely : Prop := turtleFoursRow.holds Try.pinned (OpenSpec.ofChange turtleFoursWrong)

/-- 'battledorelaw02.TurtleBack': WHATEVER THE INPUT: true; the input reads as it did. -/
def turtleBackSpec : ChangeSpec := { name := "turtleBack", fn := fun _ => fun
  | [d] => { results := [.lit (.bool true)], args := [d] }
  | _ => none }
def turtleBackRow : OpenClaim := { program := "ytjiafgnibhgfbaa", sum := "66fcf04d257d916d45ac1cdd1ef9d2315f57ec87d8278ea9a4db404abfb701da", func := "battledore/battledorelaw02.TurtleBack", spec := "turtleBack", apart := false }
def TurtleBackSaid : Prop := turtleBackRow.holds Try.pinned (OpenSpec.ofChange turtleBackSpec)

/-- ITS FALSE NEIGHBOUR: 'it returns false'. Refute it at one input. -/
def turtleBackWrong : ChangeSpec := { name := "turtleBack", fn := fun _ => fun
  | [d] => { results := [.lit (.bool false)], args := [d] }
  | _ => none }
def TurtleBackWrongFalsely : Prop := turtleBackRow.holds Try.pinned (OpenSpec.ofChange turtleBackWrong)

/-- 'battledorelaw02.TurtlePaths': WHATEVER THE INPUT: true; the input reads as it did. -/
def turtlePathsSpec : ChangeSpec := { name := "turtlePaths", fn := fun _ => fun
  | [d] => { results := [.lit (.bool true)], args := [d] }
  | _ => none }
def turtlePathsRow : OpenClaim := { program := "ytjiafgnibhgfbaa", sum := "66fcf04d257d916d45ac1cdd1ef9d2315f57ec87d8278ea9a4db404abfb701da", func := "battledore/battledorelaw02.TurtlePaths", spec := "turtlePaths", apart := false }
def TurtlePathsSaid : Prop := turtlePathsRow.holds Try.pinned (OpenSpec.ofChange turtlePathsSpec)

/-- ITS FALSE NEIGHBOUR: 'it returns false'. Refute it at one input. -/
def turtlePathsWrong : ChangeSpec := { name := "turtlePaths", fn := fun _ => fun
  | [d] => { results := [.lit (.bool false)], args := [d] }
  | _ => none }
def TurtlePathsWrongFalsely : Prop := turtlePathsRow.holds Try.pinned (OpenSpec.ofChange turtlePathsWrong)

/-- 'battledorelaw01.OctetSeals': WHATEVER THE INPUT: true; the input reads as it did. -/
def octetSealsSpec : ChangeSpec := { name := "octetSeals", fn := fun _ => fun
  | [d1, d2] => { results := [.lit (.bool true)], args := [d1, d2] }
  | _ => none }
def octetSealsRow : OpenClaim := { program := "ytjiafgnibhgfbaa", sum := "66fcf04d257d916d45ac1cdd1ef9d2315f57ec87d8278ea9a4db404abfb701da", func := "battledore/battledorelaw01.OctetSeals", spec := "octetSeals", apart := false }
def OctetSealsSaid : Prop := octetSealsRow.holds Try.pinned (OpenSpec.ofChange octetSealsSpec)

/-- ITS FALSE NEIGHBOUR: 'it returns false'. Refute it at one input. -/
def octetSealsWrong : ChangeSpec := { name := "octetSeals", fn := fun _ => fun
  | [d1, d2] => { results := [.lit (.bool false)], args := [d1, d2] }
  | _ => none }
def OctetSealsWrongFalsely : Prop := octetSealsRow.holds Try.pinned (OpenSpec.ofChange octetSealsWrong)

/-- 'battledorelaw01.OctetBursts': WHATEVER THE INPUT: true; the input reads as it did. -/
def octetBurstsSpec : ChangeSpec := { name := "octetBursts", fn := fun _ => fun
  | [d1, d2, d3] => { results := [.lit (.bool true)], args := [d1, d2, d3] }
  | _ => none }
def octetBurstsRow : OpenClaim := { program := "ytjiafgnibhgfbaa", sum := "66fcf04d257d916d45ac1cdd1ef9d2315f57ec87d8278ea9a4db404abfb701da", func := "battledore/battledorelaw01.OctetBursts", spec := "octetBursts", apart := false }
def OctetBurstsSaid : Prop := octetBurstsRow.holds Try.pinned (OpenSpec.ofChange octetBurstsSpec)

/-- ITS FALSE NEIGHBOUR: 'it returns false'. Refute it at one input. -/
def octetBurstsWrong : ChangeSpec := { name := "octetBursts", fn := fun _ => fun
  | [d1, d2, d3] => { results := [.lit (.bool false)], args := [d1, d2, d3] }
  | _ => none }
def OctetBurstsWrongFalsely : Prop := octetBurstsRow.holds Try.pinned (OpenSpec.ofChange octetBurstsWrong)

/-- 'battledorelaw01.OctetReads': WHATEVER THE INPUT: true; the input reads as it did. -/
def octetReadsSpec : ChangeSpec := { name := "octetReads", fn := fun _ => fun
  | [d1, d2] => { results := [.lit (.bool true)], args := [d1, d2] }
  | _ => none }
def octetReadsRow : OpenClaim := { program := "ytjiafgnibhgfbaa", sum := "66fcf04d257d916d45ac1cdd1ef9d2315f57ec87d8278ea9a4db404abfb701da", func := "battledore/battledorelaw01.OctetReads", spec := "octetReads", apart := false }
def OctetReadsSaid : Prop := octetReadsRow.holds Try.pinned (OpenSpec.ofChange octetReadsSpec)

/-- ITS FALSE NEIGHBOUR: 'it returns false'. Refute it at one input. -/
def octetReadsWrong : ChangeSpec := { name := "octetReads", fn := fun _ => fun
  | [d1, d2] => { results := [.lit (.bool false)], args := [d1, d2] }
  | _ => none }
def OctetReadsWrongFalsely : Prop := octetReadsRow.holds Try.pinned (OpenSpec.ofChange octetReadsWrong)

/-- 'battledorelaw01.OctetFails': WHATEVER THE INPUT: true; the input reads as it did. -/
def octetFailsSpec : ChangeSpec := { name := "octetFails", fn := fun _ => fun
  | [d1, d2] => { results := [.lit (.bool true)], args := [d1, d2] }
  | _ => none }
def octetFailsRow : OpenClaim := { program := "ytjiafgnibhgfbaa", sum := "66fcf04d257d916d45ac1cdd1ef9d2315f57ec87d8278ea9a4db404abfb701da", func := "battledore/battledorelaw01.OctetFails", spec := "octetFails", apart := false }
def OctetFailsSaid : Prop := octetFailsRow.holds Try.pinned (OpenSpec.ofChange octetFailsSpec)

/-- ITS FALSE NEIGHBOUR: 'it returns false'. Refute it at one input. -/
def octetFailsWrong : ChangeSpec := { name := "octetFails", fn := fun _ => fun
  | [d1, d2] => { results := [.lit (.bool false)], args := [d1, d2] }
  | _ => none }
def OctetFailsWrongFalsely : Prop := octetFailsRow.holds Try.pinned (OpenSpec.ofChange octetFailsWrong)

/-- 'battledorelaw01.OctetWrites': WHATEVER THE INPUT: true; the input reads as it did. -/
def octetWritesSpec : ChangeSpec := { name := "octetWrites", fn := fun _ => fun
  | [d] => { results := [.lit (.bool true)], args := [d] }
  | _ => none }
def octetWritesRow : OpenClaim := { program := "ytjiafgnibhgfbaa", sum := "66fcf04d257d916d45ac1cdd1ef9d2315f57ec87d8278ea9a4db404abfb701da", func := "battledore/battledorelaw01.OctetWrites", spec := "octetWrites", apart := false }
def OctetWritesSaid : Prop := octetWritesRow.holds Try.pinned (OpenSpec.ofChange octetWritesSpec)

/-- ITS FALSE NEIGHBOUR: 'it returns false'. Refute it at one input. -/
def octetWritesWrong : ChangeSpec := { name := "octetWrites", fn := fun _ => fun
  | [d] => { results := [.lit (.bool false)], args := [d] }
  | _ => none }
def OctetWritesWrongFalsely : Prop := octetWritesRow.holds Try.pinned (OpenSpec.ofChange octetWritesWrong)

/- THE SECOND FORM. 'bulk': how many values and letters a reading holds, each counted each time it is reached (what is shared counts as often as it is met; a slice's spare places count too). A statement '..UptoSaid' is the law's where the arguments, and the package variables that the reading takes, are together of bulk at most 1048576: NARROWER than '..Said'. Prove '..Said' where nothing that the law and all that it calls make is longer than what came in: it says more and counts as full. Else prove '..UptoSaid'. A law counts once. -/
mutual
def uptoBulk {H : Type} : DataW H → Nat
  | .lit (.string bytes) => bytes.length + 1
  | .lit _ => 1
  | .nil => 1
  | .ptr d => uptoBulk d + 1
  | .slice elems spare => uptoBulkAll elems + uptoBulkAll spare + 1
  | .agg parts => uptoBulkAll parts + 1
  | .iface _ d => uptoBulk d + 1
  | .map entries => uptoBulkEntries entries + 1
  | .held _ => 1
def uptoBulkAll {H : Type} : List (DataW H) → Nat
  | [] => 0
  | d :: r => uptoBulk d + uptoBulkAll r
def uptoBulkEntries {H : Type} : List (Lit × DataW H) → Nat
  | [] => 0
  | x :: r => uptoBulkEntry x + uptoBulkEntries r
def uptoBulkEntry {H : Type} : Lit × DataW H → Nat
  | (.string bytes, d) => bytes.length + uptoBulk d + 1
  | (_, d) => uptoBulk d + 1
 end
def uptoSmall : (H : Type) → List (DataW H) → Bool := fun _ ds => decide (uptoBulkAll ds ≤ 1048576)
def OpenSpec.upto (s : _root_.Go.ChangeSpec) : _root_.Go.OpenSpec := { _root_.Go.OpenSpec.ofChange s with cond := some uptoSmall }

/-- 'battledorelaw02.TurtleTurns', WHERE WHAT IT READS IS OF BULK AT MOST 1048576: true; the input reads as it did. -/
def turtleTurnsUptoRow : OpenClaim := { program := "ytjiafgnibhgfbaa", sum := "66fcf04d257d916d45ac1cdd1ef9d2315f57ec87d8278ea9a4db404abfb701da", func := "battledore/battledorelaw02.TurtleTurns", spec := "turtleTurns", apart := false, narrowed := true }
def TurtleTurnsUptoSaid : Prop := turtleTurnsUptoRow.holds Try.pinned (OpenSpec.upto turtleTurnsSpec)

/-- 'battledorelaw02.TurtleErrs', WHERE WHAT IT READS IS OF BULK AT MOST 1048576: true; the input reads as it did. -/
def turtleErrsUptoRow : OpenClaim := { program := "ytjiafgnibhgfbaa", sum := "66fcf04d257d916d45ac1cdd1ef9d2315f57ec87d8278ea9a4db404abfb701da", func := "battledore/battledorelaw02.TurtleErrs", spec := "turtleErrs", apart := false, narrowed := true }
def TurtleErrsUptoSaid : Prop := turtleErrsUptoRow.holds Try.pinned (OpenSpec.upto turtleErrsSpec)

/-- 'battledorelaw01.OctetOrder', WHERE WHAT IT READS IS OF BULK AT MOST 1048576: true; the input reads as it did. -/
def octetOrderUptoRow : OpenClaim := { program := "ytjiafgnibhgfbaa", sum := "66fcf04d257d916d45ac1cdd1ef9d2315f57ec87d8278ea9a4db404abfb701da", func := "battledore/battledorelaw01.OctetOrder", spec := "octetOrder", apart := false, narrowed := true }
def OctetOrderUptoSaid : Prop := octetOrderUptoRow.holds Try.pinned (OpenSpec.upto octetOrderSpec)

/-- 'battledorelaw02.TurtleJoins', WHERE WHAT IT READS IS OF BULK AT MOST 1048576: true; the input reads as it did. -/
def turtleJoinsUptoRow : OpenClaim := { program := "ytjiafgnibhgfbaa", sum := "66fcf04d257d916d45ac1cdd1ef9d2315f57ec87d8278ea9a4db404abfb701da", func := "battledore/battledorelaw02.TurtleJoins", spec := "turtleJoins", apart := false, narrowed := true }
def TurtleJoinsUptoSaid : Prop := turtleJoinsUptoRow.holds Try.pinned (OpenSpec.upto turtleJoinsSpec)

/-- 'battledorelaw01.OctetDone', WHERE WHAT IT READS IS OF BULK AT MOST 1048576: true; the input reads as it did. -/
def octetDoneUptoRow : OpenClaim := { program := "ytjiafgnibhgfbaa", sum := "66fcf04d257d916d45ac1cdd1ef9d2315f57ec87d8278ea9a4db404abfb701da", func := "battledore/battledorelaw01.OctetDone", spec := "octetDone", apart := false, narrowed := true }
def OctetDoneUptoSaid : Prop := octetDoneUptoRow.holds Try.pinned (OpenSpec.upto octetDoneSpec)

/-- 'battledorelaw02.TurtleFours', WHERE WHAT IT READS IS OF BULK AT MOST 1048576: true; the input reads as it did. -/
def turtleFoursUptoRow : OpenClaim := { program := "ytjiafgnibhgfbaa", sum := "66fcf04d257d916d45ac1cdd1ef9d2315f57ec87d8278ea9a4db404abfb701da", func := "battledore/battledorelaw02.TurtleFours", spec := "turtleFours", apart := false, narrowed := true }
def TurtleFoursUptoSaid : Prop := turtleFoursUptoRow.holds Try.pinned (OpenSpec.upto turtleFoursSpec)

/-- 'battledorelaw02.TurtleBack', WHERE WHAT IT READS IS OF BULK AT MOST 1048576: true; the input reads as it did. -/
def turtleBackUptoRow : OpenClaim := { program := "ytjiafgnibhgfbaa", sum := "66fcf04d257d916d45ac1cdd1ef9d2315f57ec87d8278ea9a4db404abfb701da", func := "battledore/battledorelaw02.TurtleBack", spec := "turtleBack", apart := false, narrowed := true }
def TurtleBackUptoSaid : Prop := turtleBackUptoRow.holds Try.pinned (OpenSpec.upto turtleBackSpec)

/-- 'battledorelaw02.TurtlePaths', WHERE WHAT IT READS IS OF BULK AT MOST 1048576: true; the input reads as it did. -/
def turtlePathsUptoRow : OpenClaim := { program := "ytjiafgnibhgfbaa", sum := "66fcf04d257d916d45ac1cdd1ef9d2315f57ec87d8278ea9a4db404abfb701da", func := "battledore/battledorelaw02.TurtlePaths", spec := "turtlePaths", apart := false, narrowed := true }
def TurtlePathsUptoSaid : Prop := turtlePathsUptoRow.holds Try.pinned (OpenSpec.upto turtlePathsSpec)

/-- 'battledorelaw01.OctetSeals', WHERE WHAT IT READS IS OF BULK AT MOST 1048576: true; the input reads as it did. -/
def octetSealsUptoRow : OpenClaim := { program := "ytjiafgnibhgfbaa", sum := "66fcf04d257d916d45ac1cdd1ef9d2315f57ec87d8278ea9a4db404abfb701da", func := "battledore/battledorelaw01.OctetSeals", spec := "octetSeals", apart := false, narrowed := true }
def OctetSealsUptoSaid : Prop := octetSealsUptoRow.holds Try.pinned (OpenSpec.upto octetSealsSpec)

/-- 'battledorelaw01.OctetBursts', WHERE WHAT IT READS IS OF BULK AT MOST 1048576: true; the input reads as it did. -/
def octetBurstsUptoRow : OpenClaim := { program := "ytjiafgnibhgfbaa", sum := "66fcf04d257d916d45ac1cdd1ef9d2315f57ec87d8278ea9a4db404abfb701da", func := "battledore/battledorelaw01.OctetBursts", spec := "octetBursts", apart := false, narrowed := true }
def OctetBurstsUptoSaid : Prop := octetBurstsUptoRow.holds Try.pinned (OpenSpec.upto octetBurstsSpec)

/-- 'battledorelaw01.OctetReads', WHERE WHAT IT READS IS OF BULK AT MOST 1048576: true; the input reads as it did. -/
def octetReadsUptoRow : OpenClaim := { program := "ytjiafgnibhgfbaa", sum := "66fcf04d257d916d45ac1cdd1ef9d2315f57ec87d8278ea9a4db404abfb701da", func := "battledore/battledorelaw01.OctetReads", spec := "octetReads", apart := false, narrowed := true }
def OctetReadsUptoSaid : Prop := octetReadsUptoRow.holds Try.pinned (OpenSpec.upto octetReadsSpec)

/-- 'battledorelaw01.OctetFails', WHERE WHAT IT READS IS OF BULK AT MOST 1048576: true; the input reads as it did. -/
def octetFailsUptoRow : OpenClaim := { program := "ytjiafgnibhgfbaa", sum := "66fcf04d257d916d45ac1cdd1ef9d2315f57ec87d8278ea9a4db404abfb701da", func := "battledore/battledorelaw01.OctetFails", spec := "octetFails", apart := false, narrowed := true }
def OctetFailsUptoSaid : Prop := octetFailsUptoRow.holds Try.pinned (OpenSpec.upto octetFailsSpec)

/-- 'battledorelaw01.OctetWrites', WHERE WHAT IT READS IS OF BULK AT MOST 1048576: true; the input reads as it did. -/
def octetWritesUptoRow : OpenClaim := { program := "ytjiafgnibhgfbaa", sum := "66fcf04d257d916d45ac1cdd1ef9d2315f57ec87d8278ea9a4db404abfb701da", func := "battledore/battledorelaw01.OctetWrites", spec := "octetWrites", apart := false, narrowed := true }
def OctetWritesUptoSaid : Prop := octetWritesUptoRow.holds Try.pinned (OpenSpec.upto octetWritesSpec)

end Rows
end Go.Proofs.Ytjiafgnibhgfbaa
