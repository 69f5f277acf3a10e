/-
  More operations: structs of two whole numbers, compared.
-/
import Derived.Test.YtomkdhkkggbioaaGreatDoorFi
import Derived.Laws.StructEq
namespace Go.Proofs.YtomkdhkkggbioaaGreatDoor
open Go
set_option linter.unusedSimpArgs false
set_option linter.unusedVariables false

section
variable {P : Program} {ρ : Operand → Value} {o : Oper} {w : World} {x y : Operand} {t u : TypeId}

/-- a struct type of two int64 fields, that may be compared -/
structure PairT (P : Program) (t : TypeId) (f0 f1 : Field) : Prop where
  und : P.underlying t = some (.struct (P.fieldsOf t))
  held : P.stoodInHeld t = false
  guard : P.eqGuardType P.depth t = false
  fields : P.fieldsOf t = #[f0, f1]
  name : f0.name ≠ "_" ∧ f1.name ≠ "_"
  off : f0.offset = 0 ∧ f1.offset = 1
  int0 : P.underlying f0.type = some (.int .i64)
  int1 : P.underlying f1.type = some (.int .i64)
  flat : flatB P f0.type = true ∧ flatB P f1.type = true

theorem run_equalIn_i64 (d : Nat) {t : TypeId} (ht : P.underlying t = some (.int .i64)) (w : World) (a b : Int) : (Op.equalIn (d + 1) t (.int .i64 a) (.int .i64 b)).run P w = .ok (a == b) w := by
  simp [Op.equalIn, run_underlying ht]

theorem run_eqlPair {f0 f1 : Field} (h : PairT P t f0 f1) (w : World) (a b c d : Int) :
    (Op.equal t (.agg #[.int .i64 a, .int .i64 b]) (.agg #[.int .i64 c, .int .i64 d])).run P w = .ok (decide (a = c) && decide (b = d)) w := by
  have h1 := run_equalIn_struct (P := P) w 9999 t #[.int .i64 a, .int .i64 b] #[.int .i64 c, .int .i64 d] h.und h.held
  have h2 : (Op.equal t (.agg #[.int .i64 a, .int .i64 b]) (.agg #[.int .i64 c, .int .i64 d])).run P w = (Op.equalIn (9999 + 1) t (.agg #[.int .i64 a, .int .i64 b]) (.agg #[.int .i64 c, .int .i64 d])).run P w := rfl
  rw [h2, h1, h.fields]
  have e0 := run_isAgg_flat (P := P) (w := w) h.flat.1
  have e1 := run_isAgg_flat (P := P) (w := w) h.flat.2
  have q0 := run_equalIn_i64 (P := P) 9998 h.int0 w a c
  have q1 := run_equalIn_i64 (P := P) 9998 h.int1 w b d
  generalize hd : 9998 + 1 = D at q0 q1
  have hD : (9999 : Nat) = D := hd
  rw [hD]
  cases ha : (a == c) <;> cases hb : (b == d) <;> rw [ha] at q0 <;> rw [hb] at q1 <;> rw [show decide (a = c) = (a == c) from rfl, show decide (b = d) = (b == d) from rfl, ha, hb] <;> simp [Op.eqFields, h.name.1, h.name.2, h.off.1, h.off.2, part, e0, e1, q0, q1]

theorem r_eqlPair {f0 f1 : Field} {a b c d : Int} (ho : o.op = .binOp .eql t x y u) (hx : ρ x = .agg #[.int .i64 a, .int .i64 b]) (hy : ρ y = .agg #[.int .i64 c, .int .i64 d]) (h : PairT P t f0 f1) :
    (execOp ρ o).run P w = .ok (.value (.bool (decide (a = c) && decide (b = d)))) w := by
  have h1 := run_eqlPair h w a b c d
  simp [execOp, ho, hx, hy, eqGuard, h.guard, binOp, h1, go_sem]
theorem r_neqPair {f0 f1 : Field} {a b c d : Int} (ho : o.op = .binOp .neq t x y u) (hx : ρ x = .agg #[.int .i64 a, .int .i64 b]) (hy : ρ y = .agg #[.int .i64 c, .int .i64 d]) (h : PairT P t f0 f1) :
    (execOp ρ o).run P w = .ok (.value (.bool (!(decide (a = c) && decide (b = d))))) w := by
  have h1 := run_eqlPair h w a b c d
  simp [execOp, ho, hx, hy, eqGuard, h.guard, binOp, h1, go_sem]
end
end Go.Proofs.YtomkdhkkggbioaaGreatDoor
