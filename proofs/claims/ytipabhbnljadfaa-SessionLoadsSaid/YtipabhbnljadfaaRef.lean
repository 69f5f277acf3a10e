/-
  The reference's Sum, Seal, Open.
-/
import Derived.Test.YtipabhbnljadfaaRefP
import Derived.Test.YtipabhbnljadfaaSeal
namespace Go.Proofs.Ytipabhbnljadfaa
open Go
set_option linter.unusedSimpArgs false
set_option linter.unusedVariables false

theorem le4_take {c i : Nat} (h : i < 4) : (le4 c).take (i + 1) = (le4 c).take i ++ [byteAt c i] := by
  match i, h with
  | 0, _ => rfl
  | 1, _ => rfl
  | 2, _ => rfl
  | 3, _ => rfl

end Go.Proofs.Ytipabhbnljadfaa
