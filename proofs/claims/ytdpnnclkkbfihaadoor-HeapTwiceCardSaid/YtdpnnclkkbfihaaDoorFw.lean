/-
  A row of zeros of which only the first are in the slice.
-/
import Derived.Test.YtdpnnclkkbfihaaDoorFk
import Derived.Test.YtdpnnclkkbfihaaDoorFr
namespace Go.Proofs.YtdpnnclkkbfihaaDoor
open Go
set_option linter.unusedSimpArgs false
set_option linter.unusedVariables false

section
variable {P : Program} {ρ : Operand → Value} {o : Oper} {w : World} {x y : Operand} {t e : TypeId}
theorem r_makeSliceC {by_ sz l n : Nat} {z : Value} {k k' : IntKind} (ho : o.op = .makeSlice t x y) (hx : ρ x = .int k (l : Int)) (hy : ρ y = .int k' (n : Int)) (hln : l ≤ n) (hr : RowT P t e sz by_ z) (hb : by_ * n ≤ 281474976710656) (hn : n ≤ 281474976710656) :
    (execOp ρ o).run P w = .ok (.value (.slice (some ⟨w.heap.size, 0, none⟩) l n)) (w.alloc (.cells (rowCells z n) e)) := by
  obtain ⟨i, hi, hz, hs, hby⟩ := hr.parts
  have hb' : (i.bytes : Int) * (n : Int) ≤ 281474976710656 := by
    have h : ((i.bytes * n : Nat) : Int) ≤ 281474976710656 := by rw [hby]; omega
    rwa [Int.natCast_mul] at h
  have h1 := run_make (P := P) w t e i z hr.und hi hz k k' l n (by omega) (by omega) hb' (by omega)
  rw [Int.toNat_natCast, Int.toNat_natCast, hs] at h1
  have h2 : madeCells z.cells (n * sz) = rowCells z n := rowCells_eq z n sz hr.cells hr.pos
  rw [h2] at h1
  simp only [execOp, ho, hx, hy, Sem.run_bind, h1, Result.andThen_ok, Sem.run_pure]
end
/-- an empty slice of a new row -/
theorem Own.room {w : World} {g n sz : Nat} {cs : Array Value} {T : TypeId} (hb : Blk w g cs T) (hn : n ≤ maxLen) (hs : cs.size = n * sz) : Own w (At g) T sz (.slice (some ⟨g, 0, none⟩) 0 n) 0 [] := by
  have h := Own.shut (F := At g) (sz := sz) (n := 0) hb rfl (Nat.zero_le _) hn hs
  simpa using h
end Go.Proofs.YtdpnnclkkbfihaaDoor
