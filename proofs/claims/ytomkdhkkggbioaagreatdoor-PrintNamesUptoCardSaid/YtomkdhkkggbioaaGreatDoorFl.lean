/-
  More operations: the lesser and the greater of two numbers; complex numbers compared.
-/
import Derived.Test.YtomkdhkkggbioaaGreatDoorFk
import Derived.Laws.Small
namespace Go.Proofs.YtomkdhkkggbioaaGreatDoor
open Go Ieee
set_option linter.unusedSimpArgs false
set_option linter.unusedVariables false

section
variable {P : Program} {ρ : Operand → Value} {o : Oper} {w : World} {x y : Operand} {k k' : IntKind} {a b : Int}
theorem r_min {ts : Array TypeId} (ho : o.op = .call { callee := .builtin .min, args := #[x, y], argTypes := ts }) (hx : ρ x = .int k a) (hy : ρ y = .int k' b) : (execOp ρ o).run P w = .ok (.value (.int k (if b < a then b else a))) w := by
  simp [execOp, ho, resolve, invoke, builtin, hx, hy, run_min_int2]
theorem r_max {ts : Array TypeId} (ho : o.op = .call { callee := .builtin .max, args := #[x, y], argTypes := ts }) (hx : ρ x = .int k a) (hy : ρ y = .int k' b) : (execOp ρ o).run P w = .ok (.value (.int k (if b > a then b else a))) w := by
  simp [execOp, ho, resolve, invoke, builtin, hx, hy, run_max_int2]
theorem r_negN {t : TypeId} (ho : o.op = .unOp .neg t x) (hx : ρ x = .int k a) (h : inK k (-a)) : (execOp ρ o).run P w = .ok (.value (.int k (-a))) w := by
  rw [r_neg ho hx, wrap_in h]
end

theorem order_FI {x y : Nat} {a b : Int} (hx : FI x a) (hy : FI y b) : (FloatKind.f64.format.order x y == some .eq) = decide (a = b) := by
  obtain ⟨s, m, k, hd, hm, hs⟩ := hx
  obtain ⟨t, n, l, hd', hn, ht⟩ := hy
  have hb : min (-(k : Int)) (-(l : Int)) = -((max k l : Nat) : Int) := by omega
  have e1 : (-(k : Int) - -((max k l : Nat) : Int)).toNat = max k l - k := by omega
  have e2 : (-(l : Int) - -((max k l : Nat) : Int)).toNat = max k l - l := by omega
  have f1 := signed_of (u := max k l - k) hm hs
  have f2 := signed_of (u := max k l - l) hn ht
  rw [show k + (max k l - k) = max k l by omega] at f1
  rw [show l + (max k l - l) = max k l by omega] at f2
  have h1 : FloatKind.f64.format.order x y = some (compare (a * 2 ^ max k l) (b * 2 ^ max k l)) := by
    show ((double.read x).order (double.read y)) = _
    rw [hd, hd']
    simp only [Datum.order]
    rw [hb, e1, e2, f1, f2]
  rw [h1]
  generalize max k l = q
  have hp := pow_pos_int q
  by_cases h : a = b
  · subst h
    simp
  · have hne : a * 2 ^ q ≠ b * 2 ^ q := fun e => h (Int.eq_of_mul_eq_mul_right (by omega) e)
    have hc : compare (a * 2 ^ q) (b * 2 ^ q) ≠ .eq := fun e => hne (Std.LawfulEqOrd.eq_of_compare e)
    rw [Bool.eq_iff_iff]
    simp [h, hc]
end Go.Proofs.YtomkdhkkggbioaaGreatDoor
