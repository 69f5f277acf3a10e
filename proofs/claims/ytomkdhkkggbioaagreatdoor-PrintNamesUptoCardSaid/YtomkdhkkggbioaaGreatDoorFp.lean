/-
  More operations: a field of a struct's value.
-/
import Derived.Test.YtomkdhkkggbioaaGreatDoorFo
namespace Go.Proofs.YtomkdhkkggbioaaGreatDoor
open Go
set_option linter.unusedSimpArgs false
set_option linter.unusedVariables false

/-- the offset of a field that is of one cell -/
def fieldV (P : Program) (s : TypeId) (f : Nat) : Option Nat := match P.underlying s with
  | some (.struct fs) => match fs[f]? with
    | some q => if flatB P q.type then some q.offset else none
    | none => none
  | _ => none
section
variable {P : Program} {ρ : Operand → Value} {o : Oper} {w : World} {x : Operand} {t : TypeId}
theorem r_fieldV {f n : Nat} {cs : Array Value} {v : Value} (ho : o.op = .field t x f) (hx : ρ x = .agg cs) (hf : fieldV P t f = some n) (hv : cs[n]? = some v) : (execOp ρ o).run P w = .ok (.value v) w := by
  unfold fieldV at hf
  cases hu : P.underlying t with
  | none => simp [hu] at hf
  | some d =>
    rw [hu] at hf
    cases d <;> simp at hf
    rename_i fs
    cases hq : fs[f]? with
    | none => simp [hq] at hf
    | some q =>
      simp only [hq] at hf
      split at hf
      · rename_i hfl
        injection hf with hf
        subst hf
        simp [execOp, ho, hx, Instr.field, run_underlying hu, hq, asAgg, part, run_isAgg_flat hfl, hv]
      · cases hf
end
end Go.Proofs.YtomkdhkkggbioaaGreatDoor
