/-
  More operations: an array's element.
-/
import Derived.Test.YtomkdhkkggbioaaGreatDoorFl
namespace Go.Proofs.YtomkdhkkggbioaaGreatDoor
open Go
set_option linter.unusedSimpArgs false
set_option linter.unusedVariables false

section
variable {P : Program} {ρ : Operand → Value} {o : Oper} {w : World} {x y : Operand} {t e : TypeId} {k : IntKind}
theorem r_indexArr {g off n sz : Nat} {i : Int} (ho : o.op = .indexAddr t x y) (hx : ρ x = .pointer (some ⟨g, off, none⟩)) (hy : ρ y = .int k i) (hu : P.underlying t = some (.array n e)) (hz : sizeIs P e sz = true) (h0 : 0 ≤ i) (h1 : i < n) :
    (execOp ρ o).run P w = .ok (.value (.pointer (some ⟨g, off + i.toNat * sz, none⟩))) w := by
  have hadd : (⟨g, off, none⟩ : Addr).add (i.toNat * sz) = ⟨g, off + i.toNat * sz, none⟩ := Addr.add_lit _ _ _
  simp [execOp, ho, hx, hy, Instr.indexAt, run_underlying hu, asIntOf, Instr.sureAddr, h0, h1, run_sizeOf hz, hadd, go_sem]
end
end Go.Proofs.YtomkdhkkggbioaaGreatDoor
