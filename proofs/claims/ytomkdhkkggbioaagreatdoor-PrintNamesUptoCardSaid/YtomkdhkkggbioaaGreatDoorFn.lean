/-
  More operations: strings as lists of bytes, sliced and compared.
-/
import Derived.Test.YtomkdhkkggbioaaGreatDoorFm
namespace Go.Proofs.YtomkdhkkggbioaaGreatDoor
open Go
set_option linter.unusedSimpArgs false
set_option linter.unusedVariables false

theorem extract_bytes (s : List UInt8) (a b : Nat) : (ByteArray.mk s.toArray).extract a b = ⟨((s.drop a).take (b - a)).toArray⟩ := by
  apply ByteArray.ext
  apply Array.ext'
  rw [ByteArray.data_extract]
  simp [List.extract_eq_take_drop]

section
variable {P : Program} {ρ : Operand → Value} {o : Oper} {w : World} {x y : Operand} {t u : TypeId} {s s' : List UInt8}

theorem r_sliceStr {l h : Nat} {lo hi : Option Operand} (ho : o.op = .slice t x lo hi none) (hx : ρ x = .string ⟨s.toArray⟩) (hu : P.underlying t = some .string)
    (hlo : bnd ρ lo 0 l) (hhi : bnd ρ hi s.length h) (h1 : l ≤ h) (h2 : h ≤ s.length) : (execOp ρ o).run P w = .ok (.value (.string ⟨((s.drop l).take (h - l)).toArray⟩)) w := by
  have hsz : (ByteArray.mk s.toArray).size = s.length := by simp [ByteArray.size]
  have hext := extract_bytes s l h
  rcases hlo with ⟨rfl, rfl⟩ | ⟨y1, k1, b1, rfl, hy1, hb1⟩ <;> rcases hhi with ⟨rfl, rfl⟩ | ⟨y2, k2, b2, rfl, hy2, hb2⟩
  · simp [execOp, ho, hx, Instr.sliceAt, Instr.slice, run_underlying hu, Instr.sliceBounds, hsz, hext]
  · simp [execOp, ho, hx, hy2, Instr.sliceAt, Instr.slice, run_underlying hu, Instr.sliceBounds, hsz, run_sliceBound_in hb2 h2, hext]
  · simp [execOp, ho, hx, hy1, Instr.sliceAt, Instr.slice, run_underlying hu, Instr.sliceBounds, hsz, run_sliceBound_in hb1 h1, hext]
  · simp [execOp, ho, hx, hy1, hy2, Instr.sliceAt, Instr.slice, run_underlying hu, Instr.sliceBounds, hsz, run_sliceBound_in hb1 h1, run_sliceBound_in hb2 h2, hext]

theorem r_eqlStrL (ho : o.op = .binOp .eql t x y u) (hx : ρ x = .string ⟨s.toArray⟩) (hy : ρ y = .string ⟨s'.toArray⟩) : (execOp ρ o).run P w = .ok (.value (.bool (decide (s = s')))) w := by
  rw [r_eqlStr ho hx hy, mk_toList, mk_toList]
theorem r_neqStrL (ho : o.op = .binOp .neq t x y u) (hx : ρ x = .string ⟨s.toArray⟩) (hy : ρ y = .string ⟨s'.toArray⟩) : (execOp ρ o).run P w = .ok (.value (.bool (decide (s ≠ s')))) w := by
  rw [r_neqStr ho hx hy, mk_toList, mk_toList]
theorem r_lenStrL (ho : o.op = .call { callee := .builtin .len, args := #[x], argTypes := #[t] }) (hx : ρ x = .string ⟨s.toArray⟩) (hu : P.underlying t = some .string) : (execOp ρ o).run P w = .ok (.value (.int .i64 (s.length : Int))) w := by
  rw [r_lenString ho hx hu]
  simp [ByteArray.size]
theorem r_addStrL (ho : o.op = .binOp .add t x y u) (hx : ρ x = .string ⟨s.toArray⟩) (hy : ρ y = .string ⟨s'.toArray⟩) (h : s.length + s'.length ≤ 9223372036854775807) : (execOp ρ o).run P w = .ok (.value (.string ⟨(s ++ s').toArray⟩)) w := by
  rw [r_addStr ho hx hy (by simpa [ByteArray.size] using h)]
  congr 3
end
end Go.Proofs.YtomkdhkkggbioaaGreatDoor
