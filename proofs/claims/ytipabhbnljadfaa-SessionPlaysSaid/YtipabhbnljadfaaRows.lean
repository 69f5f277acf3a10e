/-
  No cell of these rows narrows 'for every input' (looked for: loops, veiled, ifaces, maps, wideKeys, modest, calm, conditions, laid).
  DERIVED. THE GIVEN ROWS OF THIS SEAT. 6 by the template 'for every input the law returns true; each argument reads behind the call as it read before'; 0 by the template 'total and deterministic' (their statements: YtipabhbnljadfaaTotals.lean).
  GIVEN WITH THE SEED: the statements are not yours to turn. If you find one false, say at which input.
  Laid BY PROGRAM, IN A SANDBOX (cutbox-rows.mjs): the forced cells as the released guide's own fill.sh prints them over the translation c6d08f0b1841fcd4… (all of the seat's roots in one cut). By AI agents, Wed Nov 11 2026. No macro, syntax, notation, axiom, sorry.
-/
import Derived.Test.YtipabhbnljadfaaChecked
import GoSem.Claim
import GoSem.ClaimJoined
import GoSem.ClaimMapViews
import Derived.JoinedTies
import Derived.KernelRfl
namespace Go.Proofs.Ytipabhbnljadfaa
/- THE CELL 'sum', in the pinned program and in every row, IS THE sha256 OF THE DUMP (.gsa) THAT YtipabhbnljadfaaProg.lean LOADS. Nothing in Lean hashes anything: it is a label: what it is worth is what the hold of that sum in a sandbox is worth. -/
noncomputable def Try.pinned : Pinned := { name := "ytipabhbnljadfaa", sum := "c6d08f0b1841fcd4c2e69b12c371bea2aef8d6bf61978d99647d4c1c6d853513", checked := Try.checked }
namespace Rows
def none {H : Type} : Left H := { results := [], args := [] }

/-- 'battledorelaw17.SessionMany': WHATEVER THE INPUT: true; the input reads as it did. -/
def sessionManySpec : ChangeSpec := { name := "sessionMany", fn := fun _ => fun
  | [d1, d2] => { results := [.lit (.bool true)], args := [d1, d2] }
  | _ => none }
def sessionManyRow : OpenClaim := { program := "ytipabhbnljadfaa", sum := "c6d08f0b1841fcd4c2e69b12c371bea2aef8d6bf61978d99647d4c1c6d853513", func := "battledore/battledorelaw17.SessionMany", spec := "sessionMany", inPlace := ["slices.overlaps[battledore/session.last]"], unfollowed := true, recurses := true, apart := false }
def SessionManySaid : Prop := sessionManyRow.holds Try.pinned (OpenSpec.ofChange sessionManySpec)

/-- ITS FALSE NEIGHBOUR: 'it returns false'. Refute it at one input. -/
def sessionManyWrong : ChangeSpec := { name := "sessionMany", fn := fun _ => fun
  | [d1, d2] => { results := [.lit (.bool false)], args := [d1, d2] }
  | _ => none }
def SessionManyWrongFalsely : Prop := sessionManyRow.holds Try.pinned (OpenSpec.ofChange sessionManyWrong)

/-- 'battledorelaw17.SessionRises': WHATEVER THE INPUT: true; the input reads as it did. -/
def sessionRisesSpec : ChangeSpec := { name := "sessionRises", fn := fun _ => fun
  | [d1, d2] => { results := [.lit (.bool true)], args := [d1, d2] }
  | _ => none }
def sessionRisesRow : OpenClaim := { program := "ytipabhbnljadfaa", sum := "c6d08f0b1841fcd4c2e69b12c371bea2aef8d6bf61978d99647d4c1c6d853513", func := "battledore/battledorelaw17.SessionRises", spec := "sessionRises", inPlace := ["slices.overlaps[battledore/session.last]"], unfollowed := true, recurses := true, apart := false }
def SessionRisesSaid : Prop := sessionRisesRow.holds Try.pinned (OpenSpec.ofChange sessionRisesSpec)

/-- ITS FALSE NEIGHBOUR: 'it returns false'. Refute it at one input. -/
def sessionRisesWrong : ChangeSpec := { name := "sessionRises", fn := fun _ => fun
  | [d1, d2] => { results := [.lit (.bool false)], args := [d1, d2] }
  | _ => none }
def SessionRisesWrongFalsely : Prop := sessionRisesRow.holds Try.pinned (OpenSpec.ofChange sessionRisesWrong)

/-- 'battledorelaw17.SessionKeeps': WHATEVER THE INPUT: true; the input reads as it did. -/
def sessionKeepsSpec : ChangeSpec := { name := "sessionKeeps", fn := fun _ => fun
  | [d] => { results := [.lit (.bool true)], args := [d] }
  | _ => none }
def sessionKeepsRow : OpenClaim := { program := "ytipabhbnljadfaa", sum := "c6d08f0b1841fcd4c2e69b12c371bea2aef8d6bf61978d99647d4c1c6d853513", func := "battledore/battledorelaw17.SessionKeeps", spec := "sessionKeeps", inPlace := ["slices.overlaps[battledore/session.last]"], unfollowed := true, recurses := true, apart := false }
def SessionKeepsSaid : Prop := sessionKeepsRow.holds Try.pinned (OpenSpec.ofChange sessionKeepsSpec)

/-- ITS FALSE NEIGHBOUR: 'it returns false'. Refute it at one input. -/
def sessionKeepsWrong : ChangeSpec := { name := "sessionKeeps", fn := fun _ => fun
  | [d] => { results := [.lit (.bool false)], args := [d] }
  | _ => none }
def SessionKeepsWrongFalsely : Prop := sessionKeepsRow.holds Try.pinned (OpenSpec.ofChange sessionKeepsWrong)

/-- 'battledorelaw17.SessionNil': WHATEVER THE INPUT: true; the input reads as it did. -/
def sessionNilSpec : ChangeSpec := { name := "sessionNil", fn := fun _ => fun
  | [d1, d2] => { results := [.lit (.bool true)], args := [d1, d2] }
  | _ => none }
def sessionNilRow : OpenClaim := { program := "ytipabhbnljadfaa", sum := "c6d08f0b1841fcd4c2e69b12c371bea2aef8d6bf61978d99647d4c1c6d853513", func := "battledore/battledorelaw17.SessionNil", spec := "sessionNil", inPlace := ["slices.overlaps[battledore/session.last]"], unfollowed := true, recurses := true, apart := false }
def SessionNilSaid : Prop := sessionNilRow.holds Try.pinned (OpenSpec.ofChange sessionNilSpec)

/-- ITS FALSE NEIGHBOUR: 'it returns false'. Refute it at one input. -/
def sessionNilWrong : ChangeSpec := { name := "sessionNil", fn := fun _ => fun
  | [d1, d2] => { results := [.lit (.bool false)], args := [d1, d2] }
  | _ => none }
def SessionNilWrongFalsely : Prop := sessionNilRow.holds Try.pinned (OpenSpec.ofChange sessionNilWrong)

/-- 'battledorelaw17.SessionPlays': WHATEVER THE INPUT: true; the input reads as it did. -/
def sessionPlaysSpec : ChangeSpec := { name := "sessionPlays", fn := fun _ => fun
  | [d] => { results := [.lit (.bool true)], args := [d] }
  | _ => none }
def sessionPlaysRow : OpenClaim := { program := "ytipabhbnljadfaa", sum := "c6d08f0b1841fcd4c2e69b12c371bea2aef8d6bf61978d99647d4c1c6d853513", func := "battledore/battledorelaw17.SessionPlays", spec := "sessionPlays", inPlace := ["slices.overlaps[battledore/session.last]"], unfollowed := true, recurses := true, apart := false }
def SessionPlaysSaid : Prop := sessionPlaysRow.holds Try.pinned (OpenSpec.ofChange sessionPlaysSpec)

/-- ITS FALSE NEIGHBOUR: 'it returns false'. Refute it at one input. -/
def sessionPlaysWrong : ChangeSpec := { name := "sessionPlays", fn := fun _ => fun
  | [d] => { results := [.lit (.bool false)], args := [d] }
  | _ => none }
def SessionPlaysWrongFalsely : Prop := sessionPlaysRow.holds Try.pinned (OpenSpec.ofChange sessionPlaysWrong)

/-- 'battledorelaw17.SessionLoads': WHATEVER THE INPUT: true; the input reads as it did. -/
def sessionLoadsSpec : ChangeSpec := { name := "sessionLoads", fn := fun _ => fun
  | [d] => { results := [.lit (.bool true)], args := [d] }
  | _ => none }
def sessionLoadsRow : OpenClaim := { program := "ytipabhbnljadfaa", sum := "c6d08f0b1841fcd4c2e69b12c371bea2aef8d6bf61978d99647d4c1c6d853513", func := "battledore/battledorelaw17.SessionLoads", spec := "sessionLoads", inPlace := ["slices.overlaps[battledore/session.last]"], unfollowed := true, recurses := true, apart := false }
def SessionLoadsSaid : Prop := sessionLoadsRow.holds Try.pinned (OpenSpec.ofChange sessionLoadsSpec)

/-- ITS FALSE NEIGHBOUR: 'it returns false'. Refute it at one input. -/
def sessionLoadsWrong : ChangeSpec := { name := "sessionLoads", fn := fun _ => fun
  | [d] => { results := [.lit (.bool false)], args := [d] }
  | _ => none }
def SessionLoadsWrongFalsely : Prop := sessionLoadsRow.holds Try.pinned (OpenSpec.ofChange sessionLoadsWrong)

/- THE SECOND FORM. 'bulk': how many values and letters a reading holds, each counted each time it is reached (what is shared counts as often as it is met; a slice's spare places count too). A statement '..UptoSaid' is the law's where the arguments, and the package variables that the reading takes, are together of bulk at most 1048576: NARROWER than '..Said'. Prove '..Said' where nothing that the law and all that it calls make is longer than what came in: it says more and counts as full. Else prove '..UptoSaid'. A law counts once. -/
mutual
def uptoBulk {H : Type} : DataW H → Nat
  | .lit (.string bytes) => bytes.length + 1
  | .lit _ => 1
  | .nil => 1
  | .ptr d => uptoBulk d + 1
  | .slice elems spare => uptoBulkAll elems + uptoBulkAll spare + 1
  | .agg parts => uptoBulkAll parts + 1
  | .iface _ d => uptoBulk d + 1
  | .map entries => uptoBulkEntries entries + 1
  | .held _ => 1
def uptoBulkAll {H : Type} : List (DataW H) → Nat
  | [] => 0
  | d :: r => uptoBulk d + uptoBulkAll r
def uptoBulkEntries {H : Type} : List (Lit × DataW H) → Nat
  | [] => 0
  | x :: r => uptoBulkEntry x + uptoBulkEntries r
def uptoBulkEntry {H : Type} : Lit × DataW H → Nat
  | (.string bytes, d) => bytes.length + uptoBulk d + 1
  | (_, d) => uptoBulk d + 1
 end
def uptoSmall : (H : Type) → List (DataW H) → Bool := fun _ ds => decide (uptoBulkAll ds ≤ 1048576)
def OpenSpec.upto (s : _root_.Go.ChangeSpec) : _root_.Go.OpenSpec := { _root_.Go.OpenSpec.ofChange s with cond := some uptoSmall }

/-- 'battledorelaw17.SessionMany', WHERE WHAT IT READS IS OF BULK AT MOST 1048576: true; the input reads as it did. -/
def sessionManyUptoRow : OpenClaim := { program := "ytipabhbnljadfaa", sum := "c6d08f0b1841fcd4c2e69b12c371bea2aef8d6bf61978d99647d4c1c6d853513", func := "battledore/battledorelaw17.SessionMany", spec := "sessionMany", inPlace := ["slices.overlaps[battledore/session.last]"], unfollowed := true, recurses := true, apart := false, narrowed := true }
def SessionManyUptoSaid : Prop := sessionManyUptoRow.holds Try.pinned (OpenSpec.upto sessionManySpec)

/-- 'battledorelaw17.SessionRises', WHERE WHAT IT READS IS OF BULK AT MOST 1048576: true; the input reads as it did. -/
def sessionRisesUptoRow : OpenClaim := { program := "ytipabhbnljadfaa", sum := "c6d08f0b1841fcd4c2e69b12c371bea2aef8d6bf61978d99647d4c1c6d853513", func := "battledore/battledorelaw17.SessionRises", spec := "sessionRises", inPlace := ["slices.overlaps[battledore/session.last]"], unfollowed := true, recurses := true, apart := false, narrowed := true }
def SessionRisesUptoSaid : Prop := sessionRisesUptoRow.holds Try.pinned (OpenSpec.upto sessionRisesSpec)

/-- 'battledorelaw17.SessionKeeps', WHERE WHAT IT READS IS OF BULK AT MOST 1048576: true; the input reads as it did. -/
def sessionKeepsUptoRow : OpenClaim := { program := "ytipabhbnljadfaa", sum := "c6d08f0b1841fcd4c2e69b12c371bea2aef8d6bf61978d99647d4c1c6d853513", func := "battledore/battledorelaw17.SessionKeeps", spec := "sessionKeeps", inPlace := ["slices.overlaps[battledore/session.last]"], unfollowed := true, recurses := true, apart := false, narrowed := true }
def SessionKeepsUptoSaid : Prop := sessionKeepsUptoRow.holds Try.pinned (OpenSpec.upto sessionKeepsSpec)

/-- 'battledorelaw17.SessionNil', WHERE WHAT IT READS IS OF BULK AT MOST 1048576: true; the input reads as it did. -/
def sessionNilUptoRow : OpenClaim := { program := "ytipabhbnljadfaa", sum := "c6d08f0b1841fcd4c2e69b12c371bea2aef8d6bf61978d99647d4c1c6d853513", func := "battledore/battledorelaw17.SessionNil", spec := "sessionNil", inPlace := ["slices.overlaps[battledore/session.last]"], unfollowed := true, recurses := true, apart := false, narrowed := true }
def SessionNilUptoSaid : Prop := sessionNilUptoRow.holds Try.pinned (OpenSpec.upto sessionNilSpec)

/-- 'battledorelaw17.SessionPlays', WHERE WHAT IT READS IS OF BULK AT MOST 1048576: true; the input reads as it did. -/
def sessionPlaysUptoRow : OpenClaim := { program := "ytipabhbnljadfaa", sum := "c6d08f0b1841fcd4c2e69b12c371bea2aef8d6bf61978d99647d4c1c6d853513", func := "battledore/battledorelaw17.SessionPlays", spec := "sessionPlays", inPlace := ["slices.overlaps[battledore/session.last]"], unfollowed := true, recurses := true, apart := false, narrowed := true }
def SessionPlaysUptoSaid : Prop := sessionPlaysUptoRow.holds Try.pinned (OpenSpec.upto sessionPlaysSpec)

/-- 'battledorelaw17.SessionLoads', WHERE WHAT IT READS IS OF BULK AT MOST 1048576: true; the input reads as it did. -/
def sessionLoadsUptoRow : OpenClaim := { program := "ytipabhbnljadfaa", sum := "c6d08f0b1841fcd4c2e69b12c371bea2aef8d6bf61978d99647d4c1c6d853513", func := "battledore/battledorelaw17.SessionLoads", spec := "sessionLoads", inPlace := ["slices.overlaps[battledore/session.last]"], unfollowed := true, recurses := true, apart := false, narrowed := true }
def SessionLoadsUptoSaid : Prop := sessionLoadsUptoRow.holds Try.pinned (OpenSpec.upto sessionLoadsSpec)

end Rows
end Go.Proofs.Ytipabhbnljadfaa
