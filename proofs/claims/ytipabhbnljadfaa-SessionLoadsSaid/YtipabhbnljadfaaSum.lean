/-
  octet.Sum; slices.Equal of bytes.
-/
import Derived.Test.YtipabhbnljadfaaSumP
import Derived.Test.YtipabhbnljadfaaWs
namespace Go.Proofs.Ytipabhbnljadfaa
open Go
set_option linter.unusedSimpArgs false
set_option linter.unusedVariables false

theorem byte_inj {a b : UInt8} (h : (a.toNat : Int) = (b.toNat : Int)) : a = b := UInt8.toNat_inj.1 (by omega)

end Go.Proofs.Ytipabhbnljadfaa
