/-
  The operations' runs, one law each: numbers, bools, addresses, loads and stores, slices, calls; entry and return.
-/
import Derived.Test.YtomkdhkkggbioaaGreatDoorFb
import Derived.WalkKit
namespace Go.Proofs.YtomkdhkkggbioaaGreatDoor
open Go
set_option linter.unusedSimpArgs false
set_option linter.unusedVariables false

theorem ev_t {E : Env} {t : Nat} {v : Value} (h : Env.get E t = some v) : Env.ev E (.tmp t) = v := by simp [Env.ev, h]
theorem ev_c {E : Env} {c : Value} : Env.ev E (.const c) = c := rfl
theorem ev_f {E : Env} {f : FuncId} : Env.ev E (.func f) = .func (.func f) #[] #[] := rfl
theorem ev_g {E : Env} {g : Nat} : Env.ev E (.global g) = .pointer (some ⟨g, 0, none⟩) := rfl

section
variable {P : Program} {ρ : Operand → Value} {o : Oper} {w : World} {x y z : Operand} {t u : TypeId} {k k' : IntKind} {a b : Int}

theorem r_move {v : Value} (ho : o.op = .move x) (hx : ρ x = v) : (execOp ρ o).run P w = .ok (.value v) w := by simp [execOp, ho, hx, go_sem]
theorem r_assign {v : Value} (ho : o.op = .assign x) (hx : ρ x = v) : (execOp ρ o).run P w = .ok (.value v) w := by simp [execOp, ho, hx, go_sem]
theorem r_pickT {v : Value} (ho : o.op = .pick x y z) (hx : ρ x = .bool true) (hy : ρ y = v) : (execOp ρ o).run P w = .ok (.value v) w := by simp [execOp, ho, hx, hy, asBool, go_sem]
theorem r_pickF {v : Value} (ho : o.op = .pick x y z) (hx : ρ x = .bool false) (hz : ρ z = v) : (execOp ρ o).run P w = .ok (.value v) w := by simp [execOp, ho, hx, hz, asBool, go_sem]

theorem r_add (ho : o.op = .binOp .add t x y u) (hx : ρ x = .int k a) (hy : ρ y = .int k b) : (execOp ρ o).run P w = .ok (.value (.int k (k.wrap (a + b)))) w := by
  simp [execOp, ho, hx, hy, binOp, Op.intArith, go_sem]
theorem r_sub (ho : o.op = .binOp .sub t x y u) (hx : ρ x = .int k a) (hy : ρ y = .int k b) : (execOp ρ o).run P w = .ok (.value (.int k (k.wrap (a - b)))) w := by
  simp [execOp, ho, hx, hy, binOp, Op.intArith, go_sem]
theorem r_mul (ho : o.op = .binOp .mul t x y u) (hx : ρ x = .int k a) (hy : ρ y = .int k b) : (execOp ρ o).run P w = .ok (.value (.int k (k.wrap (a * b)))) w := by
  simp [execOp, ho, hx, hy, binOp, Op.intArith, go_sem]

theorem wrap_i64_in {n : Int} (h1 : -9223372036854775808 ≤ n) (h2 : n ≤ 9223372036854775807) : IntKind.i64.wrap n = n := by
  simp only [IntKind.wrap, IntKind.signed, IntKind.bits, Bool.true_and]
  split <;> (rename_i h; simp only [ge_iff_le, decide_eq_true_eq] at h; omega)
theorem wrap_u64_in {n : Int} (h1 : 0 ≤ n) (h2 : n ≤ 18446744073709551615) : IntKind.u64.wrap n = n := by
  simp only [IntKind.wrap, IntKind.signed, IntKind.bits, Bool.false_and, Bool.false_eq_true, if_false]
  omega
theorem wrap_u32_in {n : Int} (h1 : 0 ≤ n) (h2 : n ≤ 4294967295) : IntKind.u32.wrap n = n := by
  simp only [IntKind.wrap, IntKind.signed, IntKind.bits, Bool.false_and, Bool.false_eq_true, if_false]
  omega
theorem wrap_u8_in {n : Int} (h1 : 0 ≤ n) (h2 : n ≤ 255) : IntKind.u8.wrap n = n := by
  simp only [IntKind.wrap, IntKind.signed, IntKind.bits, Bool.false_and, Bool.false_eq_true, if_false]
  omega

/-- numbers that the kind holds -/
def inK : IntKind → Int → Prop
  | .i64, n => -9223372036854775808 ≤ n ∧ n ≤ 9223372036854775807
  | .u64, n => 0 ≤ n ∧ n ≤ 18446744073709551615
  | .i32, n => -2147483648 ≤ n ∧ n ≤ 2147483647
  | .u32, n => 0 ≤ n ∧ n ≤ 4294967295
  | .i16, n => -32768 ≤ n ∧ n ≤ 32767
  | .u16, n => 0 ≤ n ∧ n ≤ 65535
  | .i8, n => -128 ≤ n ∧ n ≤ 127
  | .u8, n => 0 ≤ n ∧ n ≤ 255
theorem wrap_in {n : Int} (h : inK k n) : k.wrap n = n := by
  cases k <;> simp only [inK] at h <;> simp only [IntKind.wrap, IntKind.signed, IntKind.bits, Bool.true_and, Bool.false_and, Bool.false_eq_true, if_false] <;>
    first
    | omega
    | (split <;> (rename_i h'; simp only [ge_iff_le, decide_eq_true_eq] at h'; omega))

theorem r_addN (ho : o.op = .binOp .add t x y u) (hx : ρ x = .int k a) (hy : ρ y = .int k b) (h : inK k (a + b)) : (execOp ρ o).run P w = .ok (.value (.int k (a + b))) w := by
  rw [r_add ho hx hy, wrap_in h]
theorem r_subN (ho : o.op = .binOp .sub t x y u) (hx : ρ x = .int k a) (hy : ρ y = .int k b) (h : inK k (a - b)) : (execOp ρ o).run P w = .ok (.value (.int k (a - b))) w := by
  rw [r_sub ho hx hy, wrap_in h]
theorem r_mulN (ho : o.op = .binOp .mul t x y u) (hx : ρ x = .int k a) (hy : ρ y = .int k b) (h : inK k (a * b)) : (execOp ρ o).run P w = .ok (.value (.int k (a * b))) w := by
  rw [r_mul ho hx hy, wrap_in h]

theorem r_lss (ho : o.op = .binOp .lss t x y u) (hx : ρ x = .int k a) (hy : ρ y = .int k b) : (execOp ρ o).run P w = .ok (.value (.bool (decide (a < b)))) w := by
  simp [execOp, ho, hx, hy, binOp, Op.intCmp, go_sem]
theorem r_leq (ho : o.op = .binOp .leq t x y u) (hx : ρ x = .int k a) (hy : ρ y = .int k b) : (execOp ρ o).run P w = .ok (.value (.bool (decide (a ≤ b)))) w := by
  simp [execOp, ho, hx, hy, binOp, Op.intCmp, go_sem]
theorem r_gtr (ho : o.op = .binOp .gtr t x y u) (hx : ρ x = .int k a) (hy : ρ y = .int k b) : (execOp ρ o).run P w = .ok (.value (.bool (decide (b < a)))) w := by
  simp [execOp, ho, hx, hy, binOp, Op.intCmp, go_sem]
theorem r_geq (ho : o.op = .binOp .geq t x y u) (hx : ρ x = .int k a) (hy : ρ y = .int k b) : (execOp ρ o).run P w = .ok (.value (.bool (decide (b ≤ a)))) w := by
  simp [execOp, ho, hx, hy, binOp, Op.intCmp, go_sem]
theorem r_eql (ho : o.op = .binOp .eql t x y u) (hx : ρ x = .int k a) (hy : ρ y = .int k b) : (execOp ρ o).run P w = .ok (.value (.bool (decide (a = b)))) w := by
  simp [execOp, ho, hx, hy, binOp, Op.intCmp, go_sem]; rfl
theorem r_neq (ho : o.op = .binOp .neq t x y u) (hx : ρ x = .int k a) (hy : ρ y = .int k b) : (execOp ρ o).run P w = .ok (.value (.bool (decide (a ≠ b)))) w := by
  simp [execOp, ho, hx, hy, binOp, Op.intCmp, go_sem]; rfl

theorem r_and (ho : o.op = .binOp .and t x y u) (hx : ρ x = .int k a) (hy : ρ y = .int k b) : (execOp ρ o).run P w = .ok (.value (.int k (bits .and k a b))) w := by
  simp [execOp, ho, hx, hy, binOp, go_sem]
theorem r_or (ho : o.op = .binOp .or t x y u) (hx : ρ x = .int k a) (hy : ρ y = .int k b) : (execOp ρ o).run P w = .ok (.value (.int k (bits .or k a b))) w := by
  simp [execOp, ho, hx, hy, binOp, go_sem]
theorem r_xor (ho : o.op = .binOp .xor t x y u) (hx : ρ x = .int k a) (hy : ρ y = .int k b) : (execOp ρ o).run P w = .ok (.value (.int k (bits .xor k a b))) w := by
  simp [execOp, ho, hx, hy, binOp, go_sem]
theorem r_andNot (ho : o.op = .binOp .andNot t x y u) (hx : ρ x = .int k a) (hy : ρ y = .int k b) : (execOp ρ o).run P w = .ok (.value (.int k (bits .andNot k a b))) w := by
  simp [execOp, ho, hx, hy, binOp, go_sem]
theorem r_quo (ho : o.op = .binOp .quo t x y u) (hx : ρ x = .int k a) (hy : ρ y = .int k b) (hb : b ≠ 0) : (execOp ρ o).run P w = .ok (.value (.int k (k.wrap (a.tdiv b)))) w := by
  simp [execOp, ho, hx, hy, binOp, hb, go_sem]
theorem r_rem (ho : o.op = .binOp .rem t x y u) (hx : ρ x = .int k a) (hy : ρ y = .int k b) (hb : b ≠ 0) : (execOp ρ o).run P w = .ok (.value (.int k (a.tmod b))) w := by
  simp [execOp, ho, hx, hy, binOp, hb, go_sem]
theorem r_shl (ho : o.op = .binOp .shl t x y u) (hx : ρ x = .int k a) (hy : ρ y = .int k' b) (h0 : 0 ≤ b) (h1 : b ≤ k.bits) : (execOp ρ o).run P w = .ok (.value (.int k (k.wrap (a * 2 ^ b.toNat)))) w := by
  simp [execOp, ho, hx, hy, binOp, shift_shl k k' a b h0 h1, go_sem]
theorem r_shr (ho : o.op = .binOp .shr t x y u) (hx : ρ x = .int k a) (hy : ρ y = .int k' b) (h0 : 0 ≤ b) (h1 : b ≤ k.bits) : (execOp ρ o).run P w = .ok (.value (.int k (a / 2 ^ b.toNat))) w := by
  simp [execOp, ho, hx, hy, binOp, shift_shr k k' a b h0 h1, go_sem]

theorem r_not {c : Bool} (ho : o.op = .unOp .not t x) (hx : ρ x = .bool c) : (execOp ρ o).run P w = .ok (.value (.bool (!c))) w := by
  simp [execOp, ho, hx, Op.unary, go_sem]
theorem r_neg (ho : o.op = .unOp .neg t x) (hx : ρ x = .int k a) : (execOp ρ o).run P w = .ok (.value (.int k (k.wrap (-a)))) w := by
  simp [execOp, ho, hx, Op.unary, go_sem]

theorem r_conv (ho : o.op = .convert t u x) (hx : ρ x = .int k' a) (hs : (P.underlying t).isSome = true) (hd : P.underlying u = some (.int k)) : (execOp ρ o).run P w = .ok (.value (.int k (k.wrap a))) w := by
  obtain ⟨d, hd'⟩ := Option.isSome_iff_exists.1 hs
  simp [execOp, ho, hx, convert, run_underlying hd', run_underlying hd, Conv.intToInt, go_sem]
theorem r_convN (ho : o.op = .convert t u x) (hx : ρ x = .int k' a) (hs : (P.underlying t).isSome = true) (hd : P.underlying u = some (.int k)) (h : inK k a) : (execOp ρ o).run P w = .ok (.value (.int k a)) w := by
  rw [r_conv ho hx hs hd, wrap_in h]

theorem r_nilCheck {p : Addr} (ho : o.op = .nilCheck x) (hx : ρ x = .pointer (some p)) : (execOp ρ o).run P w = .ok (.value (.pointer (some p))) w := by
  simp [execOp, ho, hx, go_sem]
theorem r_eqlPtrNil {p : Option Addr} (ho : o.op = .binOp .eql t x y u) (hx : ρ x = .pointer p) (hy : ρ y = .pointer none) (h : P.underlying t = some (.pointer (P.pointee t))) : (execOp ρ o).run P w = .ok (.value (.bool p.isNone)) w := by
  simp [execOp, ho, hx, hy, run_eql_pointer_nil (P := P) w t p h, go_sem]
theorem r_neqPtrNil {p : Option Addr} (ho : o.op = .binOp .neq t x y u) (hx : ρ x = .pointer p) (hy : ρ y = .pointer none) (h : P.underlying t = some (.pointer (P.pointee t))) : (execOp ρ o).run P w = .ok (.value (.bool p.isSome)) w := by
  simp [execOp, ho, hx, hy, run_neq_pointer_nil (P := P) w t p h, go_sem]
end
end Go.Proofs.YtomkdhkkggbioaaGreatDoor
