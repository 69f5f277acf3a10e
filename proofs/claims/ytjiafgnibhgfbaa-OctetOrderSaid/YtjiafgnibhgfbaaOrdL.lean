/-
  'Rows.OctetOrderSaid': of two numbers the one that takes more bytes is greater, and of as many the one whose bytes are; without conditions.
-/
import Derived.Test.YtjiafgnibhgfbaaFrame
import Derived.Test.YtjiafgnibhgfbaaOrd
import Derived.Test.YtjiafgnibhgfbaaOrdP
namespace Go.Proofs.Ytjiafgnibhgfbaa.octetOrder
open Go Go.ChangeShapes Go.WideShapes Go.ChangeAt Go.RowKit
set_option linter.unusedSimpArgs false
set_option linter.unusedVariables false

theorem bounds {a : Int} (h : (Lit.int .u64 a).wf = true) : ∃ n : Nat, a = n ∧ n < 18446744073709551616 := by
  have := bounds_u64 h
  exact ⟨a.toNat, by omega, by omega⟩

theorem walk {W : World} {a b : Int} (h0 : (Lit.int .u64 a).wf = true) (h1 : (Lit.int .u64 b).wf = true) :
    Ret Try.prog 5 #[.int .u64 a, .int .u64 b] W fun v W' => v = .bool true ∧ Upd No W W' := by
  obtain ⟨m, rfl, hm⟩ := bounds h0
  obtain ⟨n, rfl, hn⟩ := bounds h1
  refine Calls.mono (order_walk m n hm hn W) ?_
  rintro e W' ⟨v, rfl, rfl, hu⟩
  refine ⟨_, rfl, ?_, hu⟩
  rw [less_encU hm hn]
  congr 1
  rw [beq_iff_eq]
  exact decide_eq_decide.2 (by omega)

set_option maxRecDepth 100000 in
theorem lifted (os : Os) (started : os.Started) (H : Type) (enc : TypeId × Value → H) :
    ReturnsInHanded {} Try.checked os 5 .any (Rows.octetOrderSpec.pre6 enc Try.prog Try.f5 Rows.octetOrderRow.domain false) (Rows.octetOrderSpec.post enc Try.prog Try.f5 false true false false) := by
  refine law_returns started Try.func5 (by kernel_rfl) rfl (fun ds h => ?_) rfl Try.underlying4 (by kernel_rfl)
    (ChangeSpec.witness6 (enc := enc) (C := Try.checked) false ⟨#[], #[.int .u64 0, .int .u64 0], []⟩ 8 (by kernel_rfl) (by kernel_rfl) (by kernel_rfl) (by kernel_rfl)) ?_
  · match ds, h with
    | [_, _], _ => rfl
  · intro W base args ds ps hval hA _ _
    rw [Try.params5] at hA hval
    obtain ⟨v0, vs0, d0, ds0, p0, q0, hargs, rfl, rfl, h0, r0⟩ := trodAll_cons hA
    obtain ⟨v1, vs1, d1, ds1, p1, q1, rfl, rfl, rfl, h1, r1⟩ := trodAll_cons r0
    obtain ⟨rfl, rfl, rfl⟩ := trodAll_nil r1
    obtain rfl : args = #[v0, v1] := by cases args; simp_all
    obtain ⟨a0, rfl, rfl, rfl, w0⟩ := open_int Try.underlying35 (hval 0 35 v0 rfl rfl) h0
    obtain ⟨a1, rfl, rfl, rfl, w1⟩ := open_int Try.underlying35 (hval 1 35 v1 rfl rfl) h1
    exact walk w0 w1

theorem over : Rows.octetOrderRow.holds Try.pinned (OpenSpec.ofChange Rows.octetOrderSpec) :=
  OpenClaim.holds_of_wide 5 Try.f5 rfl rfl rfl rfl rfl rfl rfl ⟨rfl, rfl, rfl, rfl, rfl⟩ rfl rfl rfl rfl rfl (by kernel_rfl) Try.func5 (by kernel_rfl)
    (of_decide_eq_true (by kernel_rfl)) (by unfold Func.isWrapper; first | (rw [if_pos (by decide +kernel)]; kernel_rfl) | (rw [if_neg (by decide +kernel)]; exact ⟨rfl, rfl⟩))
    (fun os started H enc _ => lifted os started H enc)

theorem proved : Rows.OctetOrderSaid := over
end Go.Proofs.Ytjiafgnibhgfbaa.octetOrder
