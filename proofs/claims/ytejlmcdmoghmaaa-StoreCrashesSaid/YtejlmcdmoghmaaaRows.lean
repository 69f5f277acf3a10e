/-
  No cell of these rows narrows 'for every input' (looked for: loops, veiled, ifaces, maps, wideKeys, modest, calm, conditions, laid).
  DERIVED. THE GIVEN ROWS OF THIS SEAT. 11 by the template 'for every input the law returns true; each argument reads behind the call as it read before'; 0 by the template 'total and deterministic' (their statements: YtejlmcdmoghmaaaTotals.lean).
  GIVEN WITH THE SEED: the statements are not yours to turn. If you find one false, say at which input.
  Laid BY PROGRAM, IN A SANDBOX (cutbox-rows.mjs): the forced cells as the released guide's own fill.sh prints them over the translation 88ef7ccd37a25ad6… (all of the seat's roots in one cut). By AI agents, Wed Nov 11 2026. No macro, syntax, notation, axiom, sorry.
-/
import Derived.Test.YtejlmcdmoghmaaaChecked
import GoSem.Claim
import GoSem.ClaimJoined
import GoSem.ClaimMapViews
import Derived.JoinedTies
import Derived.KernelRfl
namespace Go.Proofs.Ytejlmcdmoghmaaa
/- THE CELL 'sum', in the pinned program and in every row, IS THE sha256 OF THE DUMP (.gsa) THAT YtejlmcdmoghmaaaProg.lean LOADS. Nothing in Lean hashes anything: it is a label: what it is worth is what the hold of that sum in a sandbox is worth. -/
noncomputable def Try.pinned : Pinned := { name := "ytejlmcdmoghmaaa", sum := "88ef7ccd37a25ad6b8aac0bde7bb674cd231869922bf94998c4fd95c5e79d26c", checked := Try.checked }
namespace Rows
def none {H : Type} : Left H := { results := [], args := [] }

/-- 'battledorelaw13.DrumSure': WHATEVER THE INPUT: true; the input reads as it did. -/
def drumSureSpec : ChangeSpec := { name := "drumSure", fn := fun _ => fun
  | [d1, d2, d3, d4] => { results := [.lit (.bool true)], args := [d1, d2, d3, d4] }
  | _ => none }
def drumSureRow : OpenClaim := { program := "ytejlmcdmoghmaaa", sum := "88ef7ccd37a25ad6b8aac0bde7bb674cd231869922bf94998c4fd95c5e79d26c", func := "battledore/battledorelaw13.DrumSure", spec := "drumSure", apart := false }
def DrumSureSaid : Prop := drumSureRow.holds Try.pinned (OpenSpec.ofChange drumSureSpec)

/-- ITS FALSE NEIGHBOUR: 'it returns false'. Refute it at one input. -/
def drumSureWrong : ChangeSpec := { name := "drumSure", fn := fun _ => fun
  | [d1, d2, d3, d4] => { results := [.lit (.bool false)], args := [d1, d2, d3, d4] }
  | _ => none }
def DrumSureWrongFalsely : Prop := drumSureRow.holds Try.pinned (OpenSpec.ofChange drumSureWrong)

/-- 'battledorelaw13.DrumKeeps': WHATEVER THE INPUT: true; the input reads as it did. -/
def drumKeepsSpec : ChangeSpec := { name := "drumKeeps", fn := fun _ => fun
  | [d] => { results := [.lit (.bool true)], args := [d] }
  | _ => none }
def drumKeepsRow : OpenClaim := { program := "ytejlmcdmoghmaaa", sum := "88ef7ccd37a25ad6b8aac0bde7bb674cd231869922bf94998c4fd95c5e79d26c", func := "battledore/battledorelaw13.DrumKeeps", spec := "drumKeeps", apart := false }
def DrumKeepsSaid : Prop := drumKeepsRow.holds Try.pinned (OpenSpec.ofChange drumKeepsSpec)

/-- ITS FALSE NEIGHBOUR: 'it returns false'. Refute it at one input. -/
def drumKeepsWrong : ChangeSpec := { name := "drumKeeps", fn := fun _ => fun
  | [d] => { results := [.lit (.bool false)], args := [d] }
  | _ => none }
def DrumKeepsWrongFalsely : Prop := drumKeepsRow.holds Try.pinned (OpenSpec.ofChange drumKeepsWrong)

/-- 'battledorelaw13.DrumApart': WHATEVER THE INPUT: true; the input reads as it did. -/
def drumApartSpec : ChangeSpec := { name := "drumApart", fn := fun _ => fun
  | [d1, d2, d3, d4] => { results := [.lit (.bool true)], args := [d1, d2, d3, d4] }
  | _ => none }
def drumApartRow : OpenClaim := { program := "ytejlmcdmoghmaaa", sum := "88ef7ccd37a25ad6b8aac0bde7bb674cd231869922bf94998c4fd95c5e79d26c", func := "battledore/battledorelaw13.DrumApart", spec := "drumApart", apart := false }
def DrumApartSaid : Prop := drumApartRow.holds Try.pinned (OpenSpec.ofChange drumApartSpec)

/-- ITS FALSE NEIGHBOUR: 'it returns false'. Refute it at one input. -/
def drumApartWrong : ChangeSpec := { name := "drumApart", fn := fun _ => fun
  | [d1, d2, d3, d4] => { results := [.lit (.bool false)], args := [d1, d2, d3, d4] }
  | _ => none }
def DrumApartWrongFalsely : Prop := drumApartRow.holds Try.pinned (OpenSpec.ofChange drumApartWrong)

/-- 'battledorelaw13.DrumArms': WHATEVER THE INPUT: true; the input reads as it did. -/
def drumArmsSpec : ChangeSpec := { name := "drumArms", fn := fun _ => fun
  | [d1, d2] => { results := [.lit (.bool true)], args := [d1, d2] }
  | _ => none }
def drumArmsRow : OpenClaim := { program := "ytejlmcdmoghmaaa", sum := "88ef7ccd37a25ad6b8aac0bde7bb674cd231869922bf94998c4fd95c5e79d26c", func := "battledore/battledorelaw13.DrumArms", spec := "drumArms", apart := false }
def DrumArmsSaid : Prop := drumArmsRow.holds Try.pinned (OpenSpec.ofChange drumArmsSpec)

/-- ITS FALSE NEIGHBOUR: 'it returns false'. Refute it at one input. -/
def drumArmsWrong : ChangeSpec := { name := "drumArms", fn := fun _ => fun
  | [d1, d2] => { results := [.lit (.bool false)], args := [d1, d2] }
  | _ => none }
def DrumArmsWrongFalsely : Prop := drumArmsRow.holds Try.pinned (OpenSpec.ofChange drumArmsWrong)

/-- 'battledorelaw13.DrumNil': WHATEVER THE INPUT: true; the input reads as it did. -/
def drumNilSpec : ChangeSpec := { name := "drumNil", fn := fun _ => fun
  | [d1, d2] => { results := [.lit (.bool true)], args := [d1, d2] }
  | _ => none }
def drumNilRow : OpenClaim := { program := "ytejlmcdmoghmaaa", sum := "88ef7ccd37a25ad6b8aac0bde7bb674cd231869922bf94998c4fd95c5e79d26c", func := "battledore/battledorelaw13.DrumNil", spec := "drumNil", apart := false }
def DrumNilSaid : Prop := drumNilRow.holds Try.pinned (OpenSpec.ofChange drumNilSpec)

/-- ITS FALSE NEIGHBOUR: 'it returns false'. Refute it at one input. -/
def drumNilWrong : ChangeSpec := { name := "drumNil", fn := fun _ => fun
  | [d1, d2] => { results := [.lit (.bool false)], args := [d1, d2] }
  | _ => none }
def DrumNilWrongFalsely : Prop := drumNilRow.holds Try.pinned (OpenSpec.ofChange drumNilWrong)

/-- 'battledorelaw15.StoreFull': WHATEVER THE INPUT: true; the input reads as it did. -/
def storeFullSpec : ChangeSpec := { name := "storeFull", fn := fun _ => fun
  | [d1, d2] => { results := [.lit (.bool true)], args := [d1, d2] }
  | _ => none }
def storeFullRow : OpenClaim := { program := "ytejlmcdmoghmaaa", sum := "88ef7ccd37a25ad6b8aac0bde7bb674cd231869922bf94998c4fd95c5e79d26c", func := "battledore/battledorelaw15.StoreFull", spec := "storeFull", apart := false }
def StoreFullSaid : Prop := storeFullRow.holds Try.pinned (OpenSpec.ofChange storeFullSpec)

/-- ITS FALSE NEIGHBOUR: 'it returns false'. Refute it at one input. -/
def storeFullWrong : ChangeSpec := { name := "storeFull", fn := fun _ => fun
  | [d1, d2] => { results := [.lit (.bool false)], args := [d1, d2] }
  | _ => none }
def StoreFullWrongFalsely : Prop := storeFullRow.holds Try.pinned (OpenSpec.ofChange storeFullWrong)

/-- 'battledorelaw15.StoreKeeps': WHATEVER THE INPUT: true; the input reads as it did. -/
def storeKeepsSpec : ChangeSpec := { name := "storeKeeps", fn := fun _ => fun
  | [d] => { results := [.lit (.bool true)], args := [d] }
  | _ => none }
def storeKeepsRow : OpenClaim := { program := "ytejlmcdmoghmaaa", sum := "88ef7ccd37a25ad6b8aac0bde7bb674cd231869922bf94998c4fd95c5e79d26c", func := "battledore/battledorelaw15.StoreKeeps", spec := "storeKeeps", apart := false }
def StoreKeepsSaid : Prop := storeKeepsRow.holds Try.pinned (OpenSpec.ofChange storeKeepsSpec)

/-- ITS FALSE NEIGHBOUR: 'it returns false'. Refute it at one input. -/
def storeKeepsWrong : ChangeSpec := { name := "storeKeeps", fn := fun _ => fun
  | [d] => { results := [.lit (.bool false)], args := [d] }
  | _ => none }
def StoreKeepsWrongFalsely : Prop := storeKeepsRow.holds Try.pinned (OpenSpec.ofChange storeKeepsWrong)

/-- 'battledorelaw15.StorePlays': WHATEVER THE INPUT: true; the input reads as it did. -/
def storePlaysSpec : ChangeSpec := { name := "storePlays", fn := fun _ => fun
  | [d] => { results := [.lit (.bool true)], args := [d] }
  | _ => none }
def storePlaysRow : OpenClaim := { program := "ytejlmcdmoghmaaa", sum := "88ef7ccd37a25ad6b8aac0bde7bb674cd231869922bf94998c4fd95c5e79d26c", func := "battledore/battledorelaw15.StorePlays", spec := "storePlays", apart := false }
def StorePlaysSaid : Prop := storePlaysRow.holds Try.pinned (OpenSpec.ofChange storePlaysSpec)

/-- ITS FALSE NEIGHBOUR: 'it returns false'. Refute it at one input. -/
def storePlaysWrong : ChangeSpec := { name := "storePlays", fn := fun _ => fun
  | [d] => { results := [.lit (.bool false)], args := [d] }
  | _ => none }
def StorePlaysWrongFalsely : Prop := storePlaysRow.holds Try.pinned (OpenSpec.ofChange storePlaysWrong)

/-- 'battledorelaw15.StoreCrashes': WHATEVER THE INPUT: true; the input reads as it did. -/
def storeCrashesSpec : ChangeSpec := { name := "storeCrashes", fn := fun _ => fun
  | [d] => { results := [.lit (.bool true)], args := [d] }
  | _ => none }
def storeCrashesRow : OpenClaim := { program := "ytejlmcdmoghmaaa", sum := "88ef7ccd37a25ad6b8aac0bde7bb674cd231869922bf94998c4fd95c5e79d26c", func := "battledore/battledorelaw15.StoreCrashes", spec := "storeCrashes", apart := false }
def StoreCrashesSaid : Prop := storeCrashesRow.holds Try.pinned (OpenSpec.ofChange storeCrashesSpec)

/-- ITS FALSE NEIGHBOUR: 'it returns false'. Refute it at one input. -/
def storeCrashesWrong : ChangeSpec := { name := "storeCrashes", fn := fun _ => fun
  | [d] => { results := [.lit (.bool false)], args := [d] }
  | _ => none }
def StoreCrashesWrongFalsely : Prop := storeCrashesRow.holds Try.pinned (OpenSpec.ofChange storeCrashesWrong)

/-- 'battledorelaw14.WalKeeps': WHATEVER THE INPUT: true; the input reads as it did. -/
def walKeepsSpec : ChangeSpec := { name := "walKeeps", fn := fun _ => fun
  | [d1, d2] => { results := [.lit (.bool true)], args := [d1, d2] }
  | _ => none }
def walKeepsRow : OpenClaim := { program := "ytejlmcdmoghmaaa", sum := "88ef7ccd37a25ad6b8aac0bde7bb674cd231869922bf94998c4fd95c5e79d26c", func := "battledore/battledorelaw14.WalKeeps", spec := "walKeeps", unfollowed := true, recurses := true, apart := false }
def WalKeepsSaid : Prop := walKeepsRow.holds Try.pinned (OpenSpec.ofChange walKeepsSpec)

/-- ITS FALSE NEIGHBOUR: 'it returns false'. Refute it at one input. -/
def walKeepsWrong : ChangeSpec := { name := "walKeeps", fn := fun _ => fun
  | [d1, d2] => { results := [.lit (.bool false)], args := [d1, d2] }
  | _ => none }
def WalKeepsWrongFalsely : Prop := walKeepsRow.holds Try.pinned (OpenSpec.ofChange walKeepsWrong)

/-- 'battledorelaw14.WalTwice': WHATEVER THE INPUT: true; the input reads as it did. -/
def walTwiceSpec : ChangeSpec := { name := "walTwice", fn := fun _ => fun
  | [d] => { results := [.lit (.bool true)], args := [d] }
  | _ => none }
def walTwiceRow : OpenClaim := { program := "ytejlmcdmoghmaaa", sum := "88ef7ccd37a25ad6b8aac0bde7bb674cd231869922bf94998c4fd95c5e79d26c", func := "battledore/battledorelaw14.WalTwice", spec := "walTwice", unfollowed := true, recurses := true, apart := false }
def WalTwiceSaid : Prop := walTwiceRow.holds Try.pinned (OpenSpec.ofChange walTwiceSpec)

/-- ITS FALSE NEIGHBOUR: 'it returns false'. Refute it at one input. -/
def walTwiceWrong : ChangeSpec := { name := "walTwice", fn := fun _ => fun
  | [d] => { results := [.lit (.bool false)], args := [d] }
  | _ => none }
def WalTwiceWrongFalsely : Prop := walTwiceRow.holds Try.pinned (OpenSpec.ofChange walTwiceWrong)

/- THE SECOND FORM. 'bulk': how many values and letters a reading holds, each counted each time it is reached (what is shared counts as often as it is met; a slice's spare places count too). A statement '..UptoSaid' is the law's where the arguments, and the package variables that the reading takes, are together of bulk at most 1048576: NARROWER than '..Said'. Prove '..Said' where nothing that the law and all that it calls make is longer than what came in: it says more and counts as full. Else prove '..UptoSaid'. A law counts once. -/
mutual
def uptoBulk {H : Type} : DataW H → Nat
  | .lit (.string bytes) => bytes.length + 1
  | .lit _ => 1
  | .nil => 1
  | .ptr d => uptoBulk d + 1
  | .slice elems spare => uptoBulkAll elems + uptoBulkAll spare + 1
  | .agg parts => uptoBulkAll parts + 1
  | .iface _ d => uptoBulk d + 1
  | .map entries => uptoBulkEntries entries + 1
  | .held _ => 1
def uptoBulkAll {H : Type} : List (DataW H) → Nat
  | [] => 0
  | d :: r => uptoBulk d + uptoBulkAll r
def uptoBulkEntries {H : Type} : List (Lit × DataW H) → Nat
  | [] => 0
  | x :: r => uptoBulkEntry x + uptoBulkEntries r
def uptoBulkEntry {H : Type} : Lit × DataW H → Nat
  | (.string bytes, d) => bytes.length + uptoBulk d + 1
  | (_, d) => uptoBulk d + 1
 end
def uptoSmall : (H : Type) → List (DataW H) → Bool := fun _ ds => decide (uptoBulkAll ds ≤ 1048576)
def OpenSpec.upto (s : _root_.Go.ChangeSpec) : _root_.Go.OpenSpec := { _root_.Go.OpenSpec.ofChange s with cond := some uptoSmall }

/-- 'battledorelaw13.DrumSure', WHERE WHAT IT READS IS OF BULK AT MOST 1048576: true; the input reads as it did. -/
def drumSureUptoRow : OpenClaim := { program := "ytejlmcdmoghmaaa", sum := "88ef7ccd37a25ad6b8aac0bde7bb674cd231869922bf94998c4fd95c5e79d26c", func := "battledore/battledorelaw13.DrumSure", spec := "drumSure", apart := false, narrowed := true }
def DrumSureUptoSaid : Prop := drumSureUptoRow.holds Try.pinned (OpenSpec.upto drumSureSpec)

/-- 'battledorelaw13.DrumKeeps', WHERE WHAT IT READS IS OF BULK AT MOST 1048576: true; the input reads as it did. -/
def drumKeepsUptoRow : OpenClaim := { program := "ytejlmcdmoghmaaa", sum := "88ef7ccd37a25ad6b8aac0bde7bb674cd231869922bf94998c4fd95c5e79d26c", func := "battledore/battledorelaw13.DrumKeeps", spec := "drumKeeps", apart := false, narrowed := true }
def DrumKeepsUptoSaid : Prop := drumKeepsUptoRow.holds Try.pinned (OpenSpec.upto drumKeepsSpec)

/-- 'battledorelaw13.DrumApart', WHERE WHAT IT READS IS OF BULK AT MOST 1048576: true; the input reads as it did. -/
def drumApartUptoRow : OpenClaim := { program := "ytejlmcdmoghmaaa", sum := "88ef7ccd37a25ad6b8aac0bde7bb674cd231869922bf94998c4fd95c5e79d26c", func := "battledore/battledorelaw13.DrumApart", spec := "drumApart", apart := false, narrowed := true }
def DrumApartUptoSaid : Prop := drumApartUptoRow.holds Try.pinned (OpenSpec.upto drumApartSpec)

/-- 'battledorelaw13.DrumArms', WHERE WHAT IT READS IS OF BULK AT MOST 1048576: true; the input reads as it did. -/
def drumArmsUptoRow : OpenClaim := { program := "ytejlmcdmoghmaaa", sum := "88ef7ccd37a25ad6b8aac0bde7bb674cd231869922bf94998c4fd95c5e79d26c", func := "battledore/battledorelaw13.DrumArms", spec := "drumArms", apart := false, narrowed := true }
def DrumArmsUptoSaid : Prop := drumArmsUptoRow.holds Try.pinned (OpenSpec.upto drumArmsSpec)

/-- 'battledorelaw13.DrumNil', WHERE WHAT IT READS IS OF BULK AT MOST 1048576: true; the input reads as it did. -/
def drumNilUptoRow : OpenClaim := { program := "ytejlmcdmoghmaaa", sum := "88ef7ccd37a25ad6b8aac0bde7bb674cd231869922bf94998c4fd95c5e79d26c", func := "battledore/battledorelaw13.DrumNil", spec := "drumNil", apart := false, narrowed := true }
def DrumNilUptoSaid : Prop := drumNilUptoRow.holds Try.pinned (OpenSpec.upto drumNilSpec)

/-- 'battledorelaw15.StoreFull', WHERE WHAT IT READS IS OF BULK AT MOST 1048576: true; the input reads as it did. -/
def storeFullUptoRow : OpenClaim := { program := "ytejlmcdmoghmaaa", sum := "88ef7ccd37a25ad6b8aac0bde7bb674cd231869922bf94998c4fd95c5e79d26c", func := "battledore/battledorelaw15.StoreFull", spec := "storeFull", apart := false, narrowed := true }
def StoreFullUptoSaid : Prop := storeFullUptoRow.holds Try.pinned (OpenSpec.upto storeFullSpec)

/-- 'battledorelaw15.StoreKeeps', WHERE WHAT IT READS IS OF BULK AT MOST 1048576: true; the input reads as it did. -/
def storeKeepsUptoRow : OpenClaim := { program := "ytejlmcdmoghmaaa", sum := "88ef7ccd37a25ad6b8aac0bde7bb674cd231869922bf94998c4fd95c5e79d26c", func := "battledore/battledorelaw15.StoreKeeps", spec := "storeKeeps", apart := false, narrowed := true }
def StoreKeepsUptoSaid : Prop := storeKeepsUptoRow.holds Try.pinned (OpenSpec.upto storeKeepsSpec)

/-- 'battledorelaw15.StorePlays', WHERE WHAT IT READS IS OF BULK AT MOST 1048576: true; the input reads as it did. -/
def storePlaysUptoRow : OpenClaim := { program := "ytejlmcdmoghmaaa", sum := "88ef7ccd37a25ad6b8aac0bde7bb674cd231869922bf94998c4fd95c5e79d26c", func := "battledore/battledorelaw15.StorePlays", spec := "storePlays", apart := false, narrowed := true }
def StorePlaysUptoSaid : Prop := storePlaysUptoRow.holds Try.pinned (OpenSpec.upto storePlaysSpec)

/-- 'battledorelaw15.StoreCrashes', WHERE WHAT IT READS IS OF BULK AT MOST 1048576: true; the input reads as it did. -/
def storeCrashesUptoRow : OpenClaim := { program := "ytejlmcdmoghmaaa", sum := "88ef7ccd37a25ad6b8aac0bde7bb674cd231869922bf94998c4fd95c5e79d26c", func := "battledore/battledorelaw15.StoreCrashes", spec := "storeCrashes", apart := false, narrowed := true }
def StoreCrashesUptoSaid : Prop := storeCrashesUptoRow.holds Try.pinned (OpenSpec.upto storeCrashesSpec)

/-- 'battledorelaw14.WalKeeps', WHERE WHAT IT READS IS OF BULK AT MOST 1048576: true; the input reads as it did. -/
def walKeepsUptoRow : OpenClaim := { program := "ytejlmcdmoghmaaa", sum := "88ef7ccd37a25ad6b8aac0bde7bb674cd231869922bf94998c4fd95c5e79d26c", func := "battledore/battledorelaw14.WalKeeps", spec := "walKeeps", unfollowed := true, recurses := true, apart := false, narrowed := true }
def WalKeepsUptoSaid : Prop := walKeepsUptoRow.holds Try.pinned (OpenSpec.upto walKeepsSpec)

/-- 'battledorelaw14.WalTwice', WHERE WHAT IT READS IS OF BULK AT MOST 1048576: true; the input reads as it did. -/
def walTwiceUptoRow : OpenClaim := { program := "ytejlmcdmoghmaaa", sum := "88ef7ccd37a25ad6b8aac0bde7bb674cd231869922bf94998c4fd95c5e79d26c", func := "battledore/battledorelaw14.WalTwice", spec := "walTwice", unfollowed := true, recurses := true, apart := false, narrowed := true }
def WalTwiceUptoSaid : Prop := walTwiceUptoRow.holds Try.pinned (OpenSpec.upto walTwiceSpec)

end Rows
end Go.Proofs.Ytejlmcdmoghmaaa
