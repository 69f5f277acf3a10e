/-
  A slice written out: two elements of three, and of six cells.
-/
import Derived.Test.YtomkdhkkggbioaaGreatDoorFo
namespace Go.Proofs.YtomkdhkkggbioaaGreatDoor
open Go
set_option linter.unusedSimpArgs false
set_option linter.unusedVariables false
set_option maxRecDepth 10000
set_option maxHeartbeats 2000000

theorem fill_33 {c : Array Value} (hc : c.size = 6) (a0 a1 a2 b0 b1 b2 : Value) :
    Instr.fill (fun i => some (i * 3, 3)) c [(0, .agg #[a0, a1, a2]), (1, .agg #[b0, b1, b2])] = some #[a0, a1, a2, b0, b1, b2] := by
  obtain ⟨l⟩ := c
  match l, hc with
  | [c0, c1, c2, c3, c4, c5], _ =>
    have hA : ∀ u0 u1 u2 : Value, (Value.agg #[u0, u1, u2]).cells = #[u0, u1, u2] := fun _ _ _ => by simp [Value.cells]
    simp [Instr.fill, hA]
theorem r_buildSlice33 {P : Program} {E : Env} {o : Oper} {w : World} {t e : TypeId} {by_ : Nat} {z : Value} {x y : Operand} {a0 a1 a2 b0 b1 b2 : Value} (ho : o.op = .buildSlice t 2 #[(0, x), (1, y)]) (hx : Env.ev E x = .agg #[a0, a1, a2]) (hy : Env.ev E y = .agg #[b0, b1, b2]) (hr : RowT P t e 3 by_ z) :
    (execOp (Env.ev E) o).run P w = .ok (.value (.slice (some ⟨w.heap.size, 0, none⟩) 2 2)) (w.alloc (.cells #[a0, a1, a2, b0, b1, b2] e)) := by
  refine r_buildSlice (vs := [(0, .agg #[a0, a1, a2]), (1, .agg #[b0, b1, b2])]) ho ⟨⟨rfl, hx⟩, ⟨rfl, hy⟩, trivial⟩ hr rfl ?_
  refine fill_33 ?_ _ _ _ _ _ _
  simp [rowCells, hr.cells]

theorem fill_66 {c : Array Value} (hc : c.size = 12) (a0 a1 a2 a3 a4 a5 b0 b1 b2 b3 b4 b5 : Value) :
    Instr.fill (fun i => some (i * 6, 6)) c [(0, .agg #[a0, a1, a2, a3, a4, a5]), (1, .agg #[b0, b1, b2, b3, b4, b5])] = some #[a0, a1, a2, a3, a4, a5, b0, b1, b2, b3, b4, b5] := by
  obtain ⟨l⟩ := c
  match l, hc with
  | [c0, c1, c2, c3, c4, c5, c6, c7, c8, c9, c10, c11], _ =>
    have hA : ∀ u0 u1 u2 u3 u4 u5 : Value, (Value.agg #[u0, u1, u2, u3, u4, u5]).cells = #[u0, u1, u2, u3, u4, u5] := fun _ _ _ _ _ _ => by simp [Value.cells]
    simp [Instr.fill, hA]
theorem r_buildSlice66 {P : Program} {E : Env} {o : Oper} {w : World} {t e : TypeId} {by_ : Nat} {z : Value} {x y : Operand} {a0 a1 a2 a3 a4 a5 b0 b1 b2 b3 b4 b5 : Value} (ho : o.op = .buildSlice t 2 #[(0, x), (1, y)]) (hx : Env.ev E x = .agg #[a0, a1, a2, a3, a4, a5]) (hy : Env.ev E y = .agg #[b0, b1, b2, b3, b4, b5]) (hr : RowT P t e 6 by_ z) :
    (execOp (Env.ev E) o).run P w = .ok (.value (.slice (some ⟨w.heap.size, 0, none⟩) 2 2)) (w.alloc (.cells #[a0, a1, a2, a3, a4, a5, b0, b1, b2, b3, b4, b5] e)) := by
  refine r_buildSlice (vs := [(0, .agg #[a0, a1, a2, a3, a4, a5]), (1, .agg #[b0, b1, b2, b3, b4, b5])]) ho ⟨⟨rfl, hx⟩, ⟨rfl, hy⟩, trivial⟩ hr rfl ?_
  refine fill_66 ?_ _ _ _ _ _ _ _ _ _ _ _ _
  simp [rowCells, hr.cells]
end Go.Proofs.YtomkdhkkggbioaaGreatDoor
