/-
  NARROWER THAN 'FOR EVERY INPUT', by the rows' own cells (each row's printed sentence says how): TypesGeneral: loops · TypesEither: loops · TypesSize: loops · TypesUnify: loops · TypesTwice: loops · TypesOpen: loops.
  DERIVED. THE GIVEN ROWS OF THIS SEAT. 7 by the template 'for every input the law returns true; each argument reads behind the call as it read before'; 0 by the template 'total and deterministic' (their statements: YtncakfcafkfmfaaTotals.lean).
  GIVEN WITH THE SEED: the statements are not yours to turn. If you find one false, say at which input.
  Laid BY PROGRAM, IN A SANDBOX (cutbox-rows.mjs): the forced cells as the released guide's own fill.sh prints them over the translation 94a771224b7dea44… (all of the seat's roots in one cut). By AI agents, Wed Nov 11 2026. No macro, syntax, notation, axiom, sorry.
-/
import Derived.Test.YtncakfcafkfmfaaChecked
import GoSem.Claim
import GoSem.ClaimJoined
import GoSem.ClaimMapViews
import Derived.JoinedTies
import Derived.KernelRfl
namespace Go.Proofs.Ytncakfcafkfmfaa
/- THE CELL 'sum', in the pinned program and in every row, IS THE sha256 OF THE DUMP (.gsa) THAT YtncakfcafkfmfaaProg.lean LOADS. Nothing in Lean hashes anything: it is a label: what it is worth is what the hold of that sum in a sandbox is worth. -/
noncomputable def Try.pinned : Pinned := { name := "ytncakfcafkfmfaa", sum := "94a771224b7dea44050b5f5c9894ca6d665250f48a77da05239bab983eb8520b", checked := Try.checked }
namespace Rows
def none {H : Type} : Left H := { results := [], args := [] }

/-- 'battledorelaw06.TypesOccurs': WHATEVER THE INPUT: true; the input reads as it did. -/
def typesOccursSpec : ChangeSpec := { name := "typesOccurs", fn := fun _ => fun
  | [d] => { results := [.lit (.bool true)], args := [d] }
  | _ => none }
def typesOccursRow : OpenClaim := { program := "ytncakfcafkfmfaa", sum := "94a771224b7dea44050b5f5c9894ca6d665250f48a77da05239bab983eb8520b", func := "battledore/battledorelaw06.TypesOccurs", spec := "typesOccurs", unfollowed := true, recurses := true, plainKeys := false, apart := false }
def TypesOccursSaid : Prop := typesOccursRow.holds Try.pinned (OpenSpec.ofChange typesOccursSpec)

/-- ITS FALSE NEIGHBOUR: 'it returns false'. Refute it at one input. -/
def typesOccursWrong : ChangeSpec := { name := "typesOccurs", fn := fun _ => fun
  | [d] => { results := [.lit (.bool false)], args := [d] }
  | _ => none }
def TypesOccursWrongFalsely : Prop := typesOccursRow.holds Try.pinned (OpenSpec.ofChange typesOccursWrong)

/-- 'battledorelaw06.TypesGeneral': WHATEVER THE INPUT: true; the input reads as it did. -/
def typesGeneralSpec : ChangeSpec := { name := "typesGeneral", fn := fun _ => fun
  | [d1, d2, d3] => { results := [.lit (.bool true)], args := [d1, d2, d3] }
  | _ => none }
def typesGeneralRow : OpenClaim := { program := "ytncakfcafkfmfaa", sum := "94a771224b7dea44050b5f5c9894ca6d665250f48a77da05239bab983eb8520b", func := "battledore/battledorelaw06.TypesGeneral", spec := "typesGeneral", unfollowed := true, recurses := true, loops := true, plainKeys := false, apart := false }
def TypesGeneralSaid : Prop := typesGeneralRow.holds Try.pinned (OpenSpec.ofChange typesGeneralSpec)

/-- ITS FALSE NEIGHBOUR: 'it returns false'. Refute it at one input. -/
def typesGeneralWrong : ChangeSpec := { name := "typesGeneral", fn := fun _ => fun
  | [d1, d2, d3] => { results := [.lit (.bool false)], args := [d1, d2, d3] }
  | _ => none }
def TypesGeneralWrongFalsely : Prop := typesGeneralRow.holds Try.pinned (OpenSpec.ofChange typesGeneralWrong)

/-- 'battledorelaw06.TypesEither': WHATEVER THE INPUT: true; the input reads as it did. -/
def typesEitherSpec : ChangeSpec := { name := "typesEither", fn := fun _ => fun
  | [d] => { results := [.lit (.bool true)], args := [d] }
  | _ => none }
def typesEitherRow : OpenClaim := { program := "ytncakfcafkfmfaa", sum := "94a771224b7dea44050b5f5c9894ca6d665250f48a77da05239bab983eb8520b", func := "battledore/battledorelaw06.TypesEither", spec := "typesEither", unfollowed := true, recurses := true, loops := true, plainKeys := false, apart := false }
def TypesEitherSaid : Prop := typesEitherRow.holds Try.pinned (OpenSpec.ofChange typesEitherSpec)

/-- ITS FALSE NEIGHBOUR: 'it returns false'. Refute it at one input. -/
def typesEitherWrong : ChangeSpec := { name := "typesEither", fn := fun _ => fun
  | [d] => { results := [.lit (.bool false)], args := [d] }
  | _ => none }
def TypesEitherWrongFalsely : Prop := typesEitherRow.holds Try.pinned (OpenSpec.ofChange typesEitherWrong)

/-- 'battledorelaw06.TypesSize': WHATEVER THE INPUT: true; the input reads as it did. -/
def typesSizeSpec : ChangeSpec := { name := "typesSize", fn := fun _ => fun
  | [d1, d2] => { results := [.lit (.bool true)], args := [d1, d2] }
  | _ => none }
def typesSizeRow : OpenClaim := { program := "ytncakfcafkfmfaa", sum := "94a771224b7dea44050b5f5c9894ca6d665250f48a77da05239bab983eb8520b", func := "battledore/battledorelaw06.TypesSize", spec := "typesSize", unfollowed := true, recurses := true, loops := true, plainKeys := false, apart := false }
def TypesSizeSaid : Prop := typesSizeRow.holds Try.pinned (OpenSpec.ofChange typesSizeSpec)

/-- ITS FALSE NEIGHBOUR: 'it returns false'. Refute it at one input. -/
def typesSizeWrong : ChangeSpec := { name := "typesSize", fn := fun _ => fun
  | [d1, d2] => { results := [.lit (.bool false)], args := [d1, d2] }
  | _ => none }
def TypesSizeWrongFalsely : Prop := typesSizeRow.holds Try.pinned (OpenSpec.ofChange typesSizeWrong)

/-- 'battledorelaw06.TypesUnify': WHATEVER THE INPUT: true; the input reads as it did. -/
def typesUnifySpec : ChangeSpec := { name := "typesUnify", fn := fun _ => fun
  | [d] => { results := [.lit (.bool true)], args := [d] }
  | _ => none }
def typesUnifyRow : OpenClaim := { program := "ytncakfcafkfmfaa", sum := "94a771224b7dea44050b5f5c9894ca6d665250f48a77da05239bab983eb8520b", func := "battledore/battledorelaw06.TypesUnify", spec := "typesUnify", unfollowed := true, recurses := true, loops := true, plainKeys := false, apart := false }
def TypesUnifySaid : Prop := typesUnifyRow.holds Try.pinned (OpenSpec.ofChange typesUnifySpec)

/-- ITS FALSE NEIGHBOUR: 'it returns false'. Refute it at one input. -/
def typesUnifyWrong : ChangeSpec := { name := "typesUnify", fn := fun _ => fun
  | [d] => { results := [.lit (.bool false)], args := [d] }
  | _ => none }
def TypesUnifyWrongFalsely : Prop := typesUnifyRow.holds Try.pinned (OpenSpec.ofChange typesUnifyWrong)

/-- 'battledorelaw06.TypesTwice': WHATEVER THE INPUT: true; the input reads as it did. -/
def typesTwiceSpec : ChangeSpec := { name := "typesTwice", fn := fun _ => fun
  | [d1, d2] => { results := [.lit (.bool true)], args := [d1, d2] }
  | _ => none }
def typesTwiceRow : OpenClaim := { program := "ytncakfcafkfmfaa", sum := "94a771224b7dea44050b5f5c9894ca6d665250f48a77da05239bab983eb8520b", func := "battledore/battledorelaw06.TypesTwice", spec := "typesTwice", unfollowed := true, recurses := true, loops := true, plainKeys := false, apart := false }
def TypesTwiceSaid : Prop := typesTwiceRow.holds Try.pinned (OpenSpec.ofChange typesTwiceSpec)

/-- ITS FALSE NEIGHBOUR: 'it returns false'. Refute it at one input. -/
def typesTwiceWrong : ChangeSpec := { name := "typesTwice", fn := fun _ => fun
  | [d1, d2] => { results := [.lit (.bool false)], args := [d1, d2] }
  | _ => none }
def TypesTwiceWrongFalsely : Prop := typesTwiceRow.holds Try.pinned (OpenSpec.ofChange typesTwiceWrong)

/-- 'battledorelaw06.TypesOpen': WHATEVER THE INPUT: true; the input reads as it did. -/
def typesOpenSpec : ChangeSpec := { name := "typesOpen", fn := fun _ => fun
  | [d1, d2] => { results := [.lit (.bool true)], args := [d1, d2] }
  | _ => none }
def typesOpenRow : OpenClaim := { program := "ytncakfcafkfmfaa", sum := "94a771224b7dea44050b5f5c9894ca6d665250f48a77da05239bab983eb8520b", func := "battledore/battledorelaw06.TypesOpen", spec := "typesOpen", unfollowed := true, recurses := true, loops := true, plainKeys := false, apart := false }
def TypesOpenSaid : Prop := typesOpenRow.holds Try.pinned (OpenSpec.ofChange typesOpenSpec)

/-- ITS FALSE NEIGHBOUR: 'it returns false'. Refute it at one input. -/
def typesOpenWrong : ChangeSpec := { name := "typesOpen", fn := fun _ => fun
  | [d1, d2] => { results := [.lit (.bool false)], args := [d1, d2] }
  | _ => none }
def TypesOpenWrongFalsely : Prop := typesOpenRow.holds Try.pinned (OpenSpec.ofChange typesOpenWrong)

/- THE SECOND FORM. 'bulk': how many values and letters a reading holds, each counted each time it is reached (what is shared counts as often as it is met; a slice's spare places count too). A statement '..UptoSaid' is the law's where the arguments, and the package variables that the reading takes, are together of bulk at most 1048576: NARROWER than '..Said'. Prove '..Said' where nothing that the law and all that it calls make is longer than what came in: it says more and counts as full. Else prove '..UptoSaid'. A law counts once. -/
mutual
def uptoBulk {H : Type} : DataW H → Nat
  | .lit (.string bytes) => bytes.length + 1
  | .lit _ => 1
  | .nil => 1
  | .ptr d => uptoBulk d + 1
  | .slice elems spare => uptoBulkAll elems + uptoBulkAll spare + 1
  | .agg parts => uptoBulkAll parts + 1
  | .iface _ d => uptoBulk d + 1
  | .map entries => uptoBulkEntries entries + 1
  | .held _ => 1
def uptoBulkAll {H : Type} : List (DataW H) → Nat
  | [] => 0
  | d :: r => uptoBulk d + uptoBulkAll r
def uptoBulkEntries {H : Type} : List (Lit × DataW H) → Nat
  | [] => 0
  | x :: r => uptoBulkEntry x + uptoBulkEntries r
def uptoBulkEntry {H : Type} : Lit × DataW H → Nat
  | (.string bytes, d) => bytes.length + uptoBulk d + 1
  | (_, d) => uptoBulk d + 1
 end
def uptoSmall : (H : Type) → List (DataW H) → Bool := fun _ ds => decide (uptoBulkAll ds ≤ 1048576)
def OpenSpec.upto (s : _root_.Go.ChangeSpec) : _root_.Go.OpenSpec := { _root_.Go.OpenSpec.ofChange s with cond := some uptoSmall }

/-- 'battledorelaw06.TypesOccurs', WHERE WHAT IT READS IS OF BULK AT MOST 1048576: true; the input reads as it did. -/
def typesOccursUptoRow : OpenClaim := { program := "ytncakfcafkfmfaa", sum := "94a771224b7dea44050b5f5c9894ca6d665250f48a77da05239bab983eb8520b", func := "battledore/battledorelaw06.TypesOccurs", spec := "typesOccurs", unfollowed := true, recurses := true, plainKeys := false, apart := false, narrowed := true }
def TypesOccursUptoSaid : Prop := typesOccursUptoRow.holds Try.pinned (OpenSpec.upto typesOccursSpec)

/-- 'battledorelaw06.TypesGeneral', WHERE WHAT IT READS IS OF BULK AT MOST 1048576: true; the input reads as it did. -/
def typesGeneralUptoRow : OpenClaim := { program := "ytncakfcafkfmfaa", sum := "94a771224b7dea44050b5f5c9894ca6d665250f48a77da05239bab983eb8520b", func := "battledore/battledorelaw06.TypesGeneral", spec := "typesGeneral", unfollowed := true, recurses := true, loops := true, plainKeys := false, apart := false, narrowed := true }
def TypesGeneralUptoSaid : Prop := typesGeneralUptoRow.holds Try.pinned (OpenSpec.upto typesGeneralSpec)

/-- 'battledorelaw06.TypesEither', WHERE WHAT IT READS IS OF BULK AT MOST 1048576: true; the input reads as it did. -/
def typesEitherUptoRow : OpenClaim := { program := "ytncakfcafkfmfaa", sum := "94a771224b7dea44050b5f5c9894ca6d665250f48a77da05239bab983eb8520b", func := "battledore/battledorelaw06.TypesEither", spec := "typesEither", unfollowed := true, recurses := true, loops := true, plainKeys := false, apart := false, narrowed := true }
def TypesEitherUptoSaid : Prop := typesEitherUptoRow.holds Try.pinned (OpenSpec.upto typesEitherSpec)

/-- 'battledorelaw06.TypesSize', WHERE WHAT IT READS IS OF BULK AT MOST 1048576: true; the input reads as it did. -/
def typesSizeUptoRow : OpenClaim := { program := "ytncakfcafkfmfaa", sum := "94a771224b7dea44050b5f5c9894ca6d665250f48a77da05239bab983eb8520b", func := "battledore/battledorelaw06.TypesSize", spec := "typesSize", unfollowed := true, recurses := true, loops := true, plainKeys := false, apart := false, narrowed := true }
def TypesSizeUptoSaid : Prop := typesSizeUptoRow.holds Try.pinned (OpenSpec.upto typesSizeSpec)

/-- 'battledorelaw06.TypesUnify', WHERE WHAT IT READS IS OF BULK AT MOST 1048576: true; the input reads as it did. -/
def typesUnifyUptoRow : OpenClaim := { program := "ytncakfcafkfmfaa", sum := "94a771224b7dea44050b5f5c9894ca6d665250f48a77da05239bab983eb8520b", func := "battledore/battledorelaw06.TypesUnify", spec := "typesUnify", unfollowed := true, recurses := true, loops := true, plainKeys := false, apart := false, narrowed := true }
def TypesUnifyUptoSaid : Prop := typesUnifyUptoRow.holds Try.pinned (OpenSpec.upto typesUnifySpec)

/-- 'battledorelaw06.TypesTwice', WHERE WHAT IT READS IS OF BULK AT MOST 1048576: true; the input reads as it did. -/
def typesTwiceUptoRow : OpenClaim := { program := "ytncakfcafkfmfaa", sum := "94a771224b7dea44050b5f5c9894ca6d665250f48a77da05239bab983eb8520b", func := "battledore/battledorelaw06.TypesTwice", spec := "typesTwice", unfollowed := true, recurses := true, loops := true, plainKeys := false, apart := false, narrowed := true }
def TypesTwiceUptoSaid : Prop := typesTwiceUptoRow.holds Try.pinned (OpenSpec.upto typesTwiceSpec)

/-- 'battledorelaw06.TypesOpen', WHERE WHAT IT READS IS OF BULK AT MOST 1048576: true; the input reads as it did. -/
def typesOpenUptoRow : OpenClaim := { program := "ytncakfcafkfmfaa", sum := "94a771224b7dea44050b5f5c9894ca6d665250f48a77da05239bab983eb8520b", func := "battledore/battledorelaw06.TypesOpen", spec := "typesOpen", unfollowed := true, recurses := true, loops := true, plainKeys := false, apart := false, narrowed := true }
def TypesOpenUptoSaid : Prop := typesOpenUptoRow.holds Try.pinned (OpenSpec.upto typesOpenSpec)

end Rows
end Go.Proofs.Ytncakfcafkfmfaa
