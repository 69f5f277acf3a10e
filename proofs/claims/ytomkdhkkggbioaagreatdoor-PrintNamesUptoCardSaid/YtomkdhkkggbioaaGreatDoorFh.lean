/-
  More operations: a string's byte.
-/
import Derived.Test.YtomkdhkkggbioaaGreatDoorFg
namespace Go.Proofs.YtomkdhkkggbioaaGreatDoor
open Go
set_option linter.unusedSimpArgs false
set_option linter.unusedVariables false

theorem byteArray_get? (s : ByteArray) (j : Nat) : s[j]? = s.toList[j]? := by
  by_cases h : j < s.size
  · have h1 : s[j]? = some s[j] := getElem?_pos s j h
    rw [h1, ByteArray.toList_eq]
    have h2 : j < s.data.size := h
    rw [Array.getElem?_toList, Array.getElem?_eq_getElem h2]
    rfl
  · have h1 : s[j]? = none := getElem?_neg s j h
    have h2 : ¬ j < s.data.size := h
    rw [h1, ByteArray.toList_eq]
    simp
    omega

section
variable {P : Program} {ρ : Operand → Value} {o : Oper} {w : World} {x y : Operand} {t : TypeId} {k : IntKind}
theorem r_indexStr {s : ByteArray} {i : Int} {j : Nat} {c : UInt8} (ho : o.op = .index t x y) (hx : ρ x = .string s) (hy : ρ y = .int k i) (ht : P.underlying t = some .string) (hi : i = (j : Int)) (hc : s.toList[j]? = some c) :
    (execOp ρ o).run P w = .ok (.value (.int .u8 (c.toNat : Int))) w := by
  subst hi
  have h1 : s[j]? = some c := by rw [byteArray_get?]; exact hc
  simp [execOp, ho, hx, hy, Instr.index, asIntOf, run_underlying ht, h1]
theorem r_quoN {a b : Int} {u : TypeId} (ho : o.op = .binOp .quo t x y u) (hx : ρ x = .int k a) (hy : ρ y = .int k b) (ha : 0 ≤ a) (hb : 0 < b) (hk : inK k (a / b)) : (execOp ρ o).run P w = .ok (.value (.int k (a / b))) w := by
  rw [r_quo ho hx hy (by omega), Int.tdiv_eq_ediv_of_nonneg ha, wrap_in hk]
theorem r_remN {a b : Int} {u : TypeId} (ho : o.op = .binOp .rem t x y u) (hx : ρ x = .int k a) (hy : ρ y = .int k b) (ha : 0 ≤ a) (hb : 0 < b) : (execOp ρ o).run P w = .ok (.value (.int k (a % b))) w := by
  rw [r_rem ho hx hy (by omega), Int.tmod_eq_emod_of_nonneg ha]
end
end Go.Proofs.YtomkdhkkggbioaaGreatDoor
