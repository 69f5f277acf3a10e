/-
  More operations: a row of zeros.
-/
import Derived.Test.YtomkdhkkggbioaaGreatDoorFj
import Derived.Laws.MakeOwn
namespace Go.Proofs.YtomkdhkkggbioaaGreatDoor
open Go
set_option linter.unusedSimpArgs false
set_option linter.unusedVariables false

section
variable {P : Program} {ρ : Operand → Value} {o : Oper} {w : World} {x y : Operand} {t e : TypeId}
theorem r_makeSlice {by_ sz n : Nat} {z : Value} {k k' : IntKind} (ho : o.op = .makeSlice t x y) (hx : ρ x = .int k (n : Int)) (hy : ρ y = .int k' (n : Int)) (hr : RowT P t e sz by_ z) (hb : by_ * n ≤ 281474976710656) (hn : n ≤ 281474976710656) :
    (execOp ρ o).run P w = .ok (.value (.slice (some ⟨w.heap.size, 0, none⟩) n n)) (w.alloc (.cells (rowCells z n) e)) := by
  obtain ⟨i, hi, hz, hs, hby⟩ := hr.parts
  have hb' : (i.bytes : Int) * (n : Int) ≤ 281474976710656 := by
    have h : ((i.bytes * n : Nat) : Int) ≤ 281474976710656 := by rw [hby]; omega
    rwa [Int.natCast_mul] at h
  have h1 := run_make (P := P) w t e i z hr.und hi hz k k' n n (by omega) (Int.le_refl _) hb' (by omega)
  rw [Int.toNat_natCast, hs] at h1
  have h2 : madeCells z.cells (n * sz) = rowCells z n := rowCells_eq z n sz hr.cells hr.pos
  rw [h2] at h1
  simp only [execOp, ho, hx, hy, Sem.run_bind, h1, Result.andThen_ok, Sem.run_pure]
end
end Go.Proofs.YtomkdhkkggbioaaGreatDoor
