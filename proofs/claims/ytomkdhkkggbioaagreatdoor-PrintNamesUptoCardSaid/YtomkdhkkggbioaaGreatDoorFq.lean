/-
  Function values: made, and called.
-/
import Derived.Test.YtomkdhkkggbioaaGreatDoorFp
namespace Go.Proofs.YtomkdhkkggbioaaGreatDoor
open Go
set_option linter.unusedSimpArgs false
set_option linter.unusedVariables false

section
variable {P : Program} {N : Nat} {ops : Array Oper} {Q : Exit → Act → World → Prop} {o : Oper} {E : Env} {w w' : World} {d : Nat} {v : Value} {K : Env → World → Prop}
theorem r_makeFunc {f : FuncId} {xs ys : List Operand} {vs us : List Value} (hop : o.op = .makeFunc (.func f) xs.toArray ys.toArray) (h1 : evs E xs vs) (h2 : evs E ys us) :
    (execOp E.ev o).run P w = .ok (.value (.func (.func f) vs.toArray us.toArray)) w := by
  have e1 := evs_map h1
  have e2 := evs_map h2
  simp [execOp, hop, Instr.makeFunc, e1, e2]
theorem r_callV {f : FuncId} {x : Operand} {xs : List Operand} {ts : Array TypeId} {first cap vs : List Value} (hop : o.op = .call { callee := .value x, args := xs.toArray, argTypes := ts }) (hx : Env.ev E x = .func (.func f) first.toArray cap.toArray) (hb : hasBody P f = true) (hvs : evs E xs vs) :
    (execOp E.ev o).run P w = .ok (.enter f (first ++ (vs ++ cap)).toArray) w := by
  have e1 := evs_map hvs
  simp [execOp, hop, resolve, Deferred.ofValue, hx, invoke, e1, run_callFunc_body hb]
/-- a call of a function value -/
theorem SO.callV {f : FuncId} {x : Operand} {xs : List Operand} {ts : Array TypeId} {first cap vs all : List Value} {R : Value → World → Prop} (hop : o.op = .call { callee := .value x, args := xs.toArray, argTypes := ts }) (hx : Env.ev E x = .func (.func f) first.toArray cap.toArray) (hb : hasBody P f = true) (hvs : evs E xs vs)
    (hall : first ++ (vs ++ cap) = all) (hc : Ret P f all.toArray w R)
    (hd : o.dst = some d) (hN : Nat.blt d N = true) (ho : opsOK E o = true) (hw : wantedE ops E o = some true) (k : ∀ v w'', R v w'' → K ((d, v) :: E) w'') : SO P N ops Q o K E w :=
  SO.enter hd hN ho hw (r_callV hop hx hb hvs) (hall ▸ hc) k
end
end Go.Proofs.YtomkdhkkggbioaaGreatDoor
