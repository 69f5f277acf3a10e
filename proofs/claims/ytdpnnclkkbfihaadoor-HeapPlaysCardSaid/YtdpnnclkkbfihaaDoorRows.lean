/-
  NARROWER THAN 'FOR EVERY INPUT', by the rows' own cells (each row's printed sentence says how): HeapTexts: laid · HeapNumbers: laid · HeapCopies: laid · HeapTwice: laid · HeapPlays: laid · HeapErrs: laid.
  DERIVED. THE GIVEN ROWS OF THIS SEAT. 6 by the template 'for every input the law returns true; each argument reads behind the call as it read before'; 0 by the template 'total and deterministic' (their statements: YtdpnnclkkbfihaaDoorTotals.lean).
  GIVEN WITH THE SEED: the statements are not yours to turn. If you find one false, say at which input.
  Laid BY PROGRAM, IN A SANDBOX (cutbox-rows.mjs): the forced cells as the released guide's own fill.sh prints them over the translation 778f5b5b7e75cd69… (all of the seat's roots in one cut). By AI agents, Wed Nov 11 2026. No macro, syntax, notation, axiom, sorry.
-/
import Derived.Test.YtdpnnclkkbfihaaDoorChecked
import GoSem.Claim
import GoSem.ClaimJoined
import GoSem.ClaimMapViews
import Derived.JoinedTies
import Derived.KernelRfl
namespace Go.Proofs.YtdpnnclkkbfihaaDoor
/- THE CELL 'sum', in the pinned program and in every row, IS THE sha256 OF THE DUMP (.gsa) THAT YtdpnnclkkbfihaaDoorProg.lean LOADS. Nothing in Lean hashes anything: it is a label: what it is worth is what the hold of that sum in a sandbox is worth. -/
noncomputable def Tryd.pinned : Pinned := { name := "ytdpnnclkkbfihaadoor", sum := "778f5b5b7e75cd6926e3fd07eeed47e7a9ebe60ac898b64b83aac70db8cc0350", checked := Tryd.checked }
namespace Rows
def none {H : Type} : Left H := { results := [], args := [] }

/- WHAT THE LISTED PACKAGE-LEVEL VARIABLES READ AS WHEN THE CALL BEGINS. Each datum BY PROGRAM (the guide's laid-datum.mjs) off the statement by which the dump's own 'gosem.cut.vars' lays the variable. In a bare row this is a premise. The card (YtdpnnclkkbfihaaDoorCards.lean) ties it to the program's text. -/
def laid_bytes_ErrTooLarge {H : Type} : DataW H := .iface "*errors.errorString" (.ptr (.agg [.lit (.string [98, 121, 116, 101, 115, 46, 66, 117, 102, 102, 101, 114, 58, 32, 116, 111, 111, 32, 108, 97, 114, 103, 101])]))

/-- 'battledorelaw09.HeapTexts': WHATEVER THE INPUT: true; the input reads as it did. -/
def heapTextsSpec : ChangeSpec := { name := "heapTexts", fn := fun _ => fun
  | [d1, d2] => { results := [.lit (.bool true)], args := [d1, d2] }
  | _ => none }
def heapTextsRow : OpenClaim := { program := "ytdpnnclkkbfihaadoor", sum := "778f5b5b7e75cd6926e3fd07eeed47e7a9ebe60ac898b64b83aac70db8cc0350", func := "battledore/battledorelaw09.HeapTexts", spec := "heapTexts", unfollowed := true, recurses := true, named := ["bytes.ErrTooLarge"], apart := false, laid := [("bytes.ErrTooLarge", laid_bytes_ErrTooLarge)] }
def HeapTextsSaid : Prop := heapTextsRow.holds Tryd.pinned (OpenSpec.ofChange heapTextsSpec)

/-- ITS FALSE NEIGHBOUR: 'it returns false'. Refute it at one input. -/
def heapTextsWrong : ChangeSpec := { name := "heapTexts", fn := fun _ => fun
  | [d1, d2] => { results := [.lit (.bool false)], args := [d1, d2] }
  | _ => none }
def HeapTextsWrongFalsely : Prop := heapTextsRow.holds Tryd.pinned (OpenSpec.ofChange heapTextsWrong)

/-- 'battledorelaw09.HeapNumbers': WHATEVER THE INPUT: true; the input reads as it did. -/
def heapNumbersSpec : ChangeSpec := { name := "heapNumbers", fn := fun _ => fun
  | [d] => { results := [.lit (.bool true)], args := [d] }
  | _ => none }
def heapNumbersRow : OpenClaim := { program := "ytdpnnclkkbfihaadoor", sum := "778f5b5b7e75cd6926e3fd07eeed47e7a9ebe60ac898b64b83aac70db8cc0350", func := "battledore/battledorelaw09.HeapNumbers", spec := "heapNumbers", unfollowed := true, recurses := true, named := ["bytes.ErrTooLarge"], apart := false, laid := [("bytes.ErrTooLarge", laid_bytes_ErrTooLarge)] }
def HeapNumbersSaid : Prop := heapNumbersRow.holds Tryd.pinned (OpenSpec.ofChange heapNumbersSpec)

/-- ITS FALSE NEIGHBOUR: 'it returns false'. Refute it at one input. -/
def heapNumbersWrong : ChangeSpec := { name := "heapNumbers", fn := fun _ => fun
  | [d] => { results := [.lit (.bool false)], args := [d] }
  | _ => none }
def HeapNumbersWrongFalsely : Prop := heapNumbersRow.holds Tryd.pinned (OpenSpec.ofChange heapNumbersWrong)

/-- 'battledorelaw09.HeapCopies': WHATEVER THE INPUT: true; the input reads as it did. -/
def heapCopiesSpec : ChangeSpec := { name := "heapCopies", fn := fun _ => fun
  | [d] => { results := [.lit (.bool true)], args := [d] }
  | _ => none }
def heapCopiesRow : OpenClaim := { program := "ytdpnnclkkbfihaadoor", sum := "778f5b5b7e75cd6926e3fd07eeed47e7a9ebe60ac898b64b83aac70db8cc0350", func := "battledore/battledorelaw09.HeapCopies", spec := "heapCopies", unfollowed := true, recurses := true, named := ["bytes.ErrTooLarge"], apart := false, laid := [("bytes.ErrTooLarge", laid_bytes_ErrTooLarge)] }
def HeapCopiesSaid : Prop := heapCopiesRow.holds Tryd.pinned (OpenSpec.ofChange heapCopiesSpec)

/-- ITS FALSE NEIGHBOUR: 'it returns false'. Refute it at one input. -/
def heapCopiesWrong : ChangeSpec := { name := "heapCopies", fn := fun _ => fun
  | [d] => { results := [.lit (.bool false)], args := [d] }
  | _ => none }
def HeapCopiesWrongFalsely : Prop := heapCopiesRow.holds Tryd.pinned (OpenSpec.ofChange heapCopiesWrong)

/-- 'battledorelaw09.HeapTwice': WHATEVER THE INPUT: true; the input reads as it did. -/
def heapTwiceSpec : ChangeSpec := { name := "heapTwice", fn := fun _ => fun
  | [d1, d2] => { results := [.lit (.bool true)], args := [d1, d2] }
  | _ => none }
def heapTwiceRow : OpenClaim := { program := "ytdpnnclkkbfihaadoor", sum := "778f5b5b7e75cd6926e3fd07eeed47e7a9ebe60ac898b64b83aac70db8cc0350", func := "battledore/battledorelaw09.HeapTwice", spec := "heapTwice", unfollowed := true, recurses := true, named := ["bytes.ErrTooLarge"], apart := false, laid := [("bytes.ErrTooLarge", laid_bytes_ErrTooLarge)] }
def HeapTwiceSaid : Prop := heapTwiceRow.holds Tryd.pinned (OpenSpec.ofChange heapTwiceSpec)

/-- ITS FALSE NEIGHBOUR: 'it returns false'. Refute it at one input. -/
def heapTwiceWrong : ChangeSpec := { name := "heapTwice", fn := fun _ => fun
  | [d1, d2] => { results := [.lit (.bool false)], args := [d1, d2] }
  | _ => none }
def HeapTwiceWrongFalsely : Prop := heapTwiceRow.holds Tryd.pinned (OpenSpec.ofChange heapTwiceWrong)

/-- 'battledorelaw09.HeapPlays': WHATEVER THE INPUT: true; the input reads as it did. -/
def heapPlaysSpec : ChangeSpec := { name := "heapPlays", fn := fun _ => fun
  | [d1, d2] => { results := [.lit (.bool true)], args := [d1, d2] }
  | _ => none }
def heapPlaysRow : OpenClaim := { program := "ytdpnnclkkbfihaadoor", sum := "778f5b5b7e75cd6926e3fd07eeed47e7a9ebe60ac898b64b83aac70db8cc0350", func := "battledore/battledorelaw09.HeapPlays", spec := "heapPlays", unfollowed := true, recurses := true, named := ["bytes.ErrTooLarge"], apart := false, laid := [("bytes.ErrTooLarge", laid_bytes_ErrTooLarge)] }
def HeapPlaysSaid : Prop := heapPlaysRow.holds Tryd.pinned (OpenSpec.ofChange heapPlaysSpec)

/-- ITS FALSE NEIGHBOUR: 'it returns false'. Refute it at one input. -/
def heapPlaysWrong : ChangeSpec := { name := "heapPlays", fn := fun _ => fun
  | [d1, d2] => { results := [.lit (.bool false)], args := [d1, d2] }
  | _ => none }
def HeapPlaysWrongFalsely : Prop := heapPlaysRow.holds Tryd.pinned (OpenSpec.ofChange heapPlaysWrong)

/-- 'battledorelaw09.HeapErrs': WHATEVER THE INPUT: true; the input reads as it did. -/
def heapErrsSpec : ChangeSpec := { name := "heapErrs", fn := fun _ => fun
  | [d1, d2] => { results := [.lit (.bool true)], args := [d1, d2] }
  | _ => none }
def heapErrsRow : OpenClaim := { program := "ytdpnnclkkbfihaadoor", sum := "778f5b5b7e75cd6926e3fd07eeed47e7a9ebe60ac898b64b83aac70db8cc0350", func := "battledore/battledorelaw09.HeapErrs", spec := "heapErrs", unfollowed := true, recurses := true, named := ["bytes.ErrTooLarge"], apart := false, laid := [("bytes.ErrTooLarge", laid_bytes_ErrTooLarge)] }
def HeapErrsSaid : Prop := heapErrsRow.holds Tryd.pinned (OpenSpec.ofChange heapErrsSpec)

/-- ITS FALSE NEIGHBOUR: 'it returns false'. Refute it at one input. -/
def heapErrsWrong : ChangeSpec := { name := "heapErrs", fn := fun _ => fun
  | [d1, d2] => { results := [.lit (.bool false)], args := [d1, d2] }
  | _ => none }
def HeapErrsWrongFalsely : Prop := heapErrsRow.holds Tryd.pinned (OpenSpec.ofChange heapErrsWrong)

/- THE SECOND FORM. 'bulk': how many values and letters a reading holds, each counted each time it is reached (what is shared counts as often as it is met; a slice's spare places count too). A statement '..UptoSaid' is the law's where the arguments, and the package variables that the reading takes, are together of bulk at most 1048576: NARROWER than '..Said'. Prove '..Said' where nothing that the law and all that it calls make is longer than what came in: it says more and counts as full. Else prove '..UptoSaid'. A law counts once. -/
mutual
def uptoBulk {H : Type} : DataW H → Nat
  | .lit (.string bytes) => bytes.length + 1
  | .lit _ => 1
  | .nil => 1
  | .ptr d => uptoBulk d + 1
  | .slice elems spare => uptoBulkAll elems + uptoBulkAll spare + 1
  | .agg parts => uptoBulkAll parts + 1
  | .iface _ d => uptoBulk d + 1
  | .map entries => uptoBulkEntries entries + 1
  | .held _ => 1
def uptoBulkAll {H : Type} : List (DataW H) → Nat
  | [] => 0
  | d :: r => uptoBulk d + uptoBulkAll r
def uptoBulkEntries {H : Type} : List (Lit × DataW H) → Nat
  | [] => 0
  | x :: r => uptoBulkEntry x + uptoBulkEntries r
def uptoBulkEntry {H : Type} : Lit × DataW H → Nat
  | (.string bytes, d) => bytes.length + uptoBulk d + 1
  | (_, d) => uptoBulk d + 1
 end
def uptoSmall : (H : Type) → List (DataW H) → Bool := fun _ ds => decide (uptoBulkAll ds ≤ 1048576)
def OpenSpec.upto (s : _root_.Go.ChangeSpec) : _root_.Go.OpenSpec := { _root_.Go.OpenSpec.ofChange s with cond := some uptoSmall }

/-- 'battledorelaw09.HeapTexts', WHERE WHAT IT READS IS OF BULK AT MOST 1048576: true; the input reads as it did. -/
def heapTextsUptoRow : OpenClaim := { program := "ytdpnnclkkbfihaadoor", sum := "778f5b5b7e75cd6926e3fd07eeed47e7a9ebe60ac898b64b83aac70db8cc0350", func := "battledore/battledorelaw09.HeapTexts", spec := "heapTexts", unfollowed := true, recurses := true, named := ["bytes.ErrTooLarge"], apart := false, laid := [("bytes.ErrTooLarge", laid_bytes_ErrTooLarge)], narrowed := true }
def HeapTextsUptoSaid : Prop := heapTextsUptoRow.holds Tryd.pinned (OpenSpec.upto heapTextsSpec)

/-- 'battledorelaw09.HeapNumbers', WHERE WHAT IT READS IS OF BULK AT MOST 1048576: true; the input reads as it did. -/
def heapNumbersUptoRow : OpenClaim := { program := "ytdpnnclkkbfihaadoor", sum := "778f5b5b7e75cd6926e3fd07eeed47e7a9ebe60ac898b64b83aac70db8cc0350", func := "battledore/battledorelaw09.HeapNumbers", spec := "heapNumbers", unfollowed := true, recurses := true, named := ["bytes.ErrTooLarge"], apart := false, laid := [("bytes.ErrTooLarge", laid_bytes_ErrTooLarge)], narrowed := true }
def HeapNumbersUptoSaid : Prop := heapNumbersUptoRow.holds Tryd.pinned (OpenSpec.upto heapNumbersSpec)

/-- 'battledorelaw09.HeapCopies', WHERE WHAT IT READS IS OF BULK AT MOST 1048576: true; the input reads as it did. -/
def heapCopiesUptoRow : OpenClaim := { program := "ytdpnnclkkbfihaadoor", sum := "778f5b5b7e75cd6926e3fd07eeed47e7a9ebe60ac898b64b83aac70db8cc0350", func := "battledore/battledorelaw09.HeapCopies", spec := "heapCopies", unfollowed := true, recurses := true, named := ["bytes.ErrTooLarge"], apart := false, laid := [("bytes.ErrTooLarge", laid_bytes_ErrTooLarge)], narrowed := true }
def HeapCopiesUptoSaid : Prop := heapCopiesUptoRow.holds Tryd.pinned (OpenSpec.upto heapCopiesSpec)

/-- 'battledorelaw09.HeapTwice', WHERE WHAT IT READS IS OF BULK AT MOST 1048576: true; the input reads as it did. -/
def heapTwiceUptoRow : OpenClaim := { program := "ytdpnnclkkbfihaadoor", sum := "778f5b5b7e75cd6926e3fd07eeed47e7a9ebe60ac898b64b83aac70db8cc0350", func := "battledore/battledorelaw09.HeapTwice", spec := "heapTwice", unfollowed := true, recurses := true, named := ["bytes.ErrTooLarge"], apart := false, laid := [("bytes.ErrTooLarge", laid_bytes_ErrTooLarge)], narrowed := true }
def HeapTwiceUptoSaid : Prop := heapTwiceUptoRow.holds Tryd.pinned (OpenSpec.upto heapTwiceSpec)

/-- 'battledorelaw09.HeapPlays', WHERE WHAT IT READS IS OF BULK AT MOST 1048576: true; the input reads as it did. -/
def heapPlaysUptoRow : OpenClaim := { program := "ytdpnnclkkbfihaadoor", sum := "778f5b5b7e75cd6926e3fd07eeed47e7a9ebe60ac898b64b83aac70db8cc0350", func := "battledore/battledorelaw09.HeapPlays", spec := "heapPlays", unfollowed := true, recurses := true, named := ["bytes.ErrTooLarge"], apart := false, laid := [("bytes.ErrTooLarge", laid_bytes_ErrTooLarge)], narrowed := true }
def HeapPlaysUptoSaid : Prop := heapPlaysUptoRow.holds Tryd.pinned (OpenSpec.upto heapPlaysSpec)

/-- 'battledorelaw09.HeapErrs', WHERE WHAT IT READS IS OF BULK AT MOST 1048576: true; the input reads as it did. -/
def heapErrsUptoRow : OpenClaim := { program := "ytdpnnclkkbfihaadoor", sum := "778f5b5b7e75cd6926e3fd07eeed47e7a9ebe60ac898b64b83aac70db8cc0350", func := "battledore/battledorelaw09.HeapErrs", spec := "heapErrs", unfollowed := true, recurses := true, named := ["bytes.ErrTooLarge"], apart := false, laid := [("bytes.ErrTooLarge", laid_bytes_ErrTooLarge)], narrowed := true }
def HeapErrsUptoSaid : Prop := heapErrsUptoRow.holds Tryd.pinned (OpenSpec.upto heapErrsSpec)

end Rows
end Go.Proofs.YtdpnnclkkbfihaaDoor
