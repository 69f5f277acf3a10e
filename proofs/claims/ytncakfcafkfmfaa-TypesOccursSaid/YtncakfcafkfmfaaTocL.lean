/-
  'Rows.TypesOccursSaid': a variable can't stand for what it occurs in, nor in a ring of several; without conditions.
-/
import Derived.Test.YtncakfcafkfmfaaFopen
import Derived.Test.YtncakfcafkfmfaaTym
namespace Go.Proofs.Ytncakfcafkfmfaa.typesOccurs
open Go Go.ChangeShapes Go.WideShapes Go.ChangeAt Go.RowKit
set_option linter.unusedSimpArgs false
set_option linter.unusedVariables false

set_option maxRecDepth 100000 in
theorem lifted (os : Os) (started : os.Started) (H : Type) (enc : TypeId × Value → H) :
    ReturnsInHanded {} Try.checked os 3 .any (Rows.typesOccursSpec.pre6 enc Try.prog Try.f3 Rows.typesOccursRow.domain false) (Rows.typesOccursSpec.post enc Try.prog Try.f3 false true false false) := by
  refine law_returns started Try.func3 (by kernel_rfl) rfl (fun ds h => ?_) rfl Try.underlying4 (by kernel_rfl)
    (ChangeSpec.witness6 (enc := enc) (C := Try.checked) false ⟨#[], #[.int .u8 0], []⟩ 8 (by kernel_rfl) (by kernel_rfl) (by kernel_rfl) (by kernel_rfl)) ?_
  · match ds, h with
    | [_], _ => rfl
  · intro W base args ds ps hval hA _ hwt
    rw [Try.params3] at hA hval hwt
    obtain ⟨v0, vs0, d0, ds0, p0, q0, hargs, rfl, rfl, h0, r0⟩ := trodAll_cons hA
    obtain ⟨rfl, rfl, rfl⟩ := trodAll_nil r0
    obtain rfl : args = #[v0] := by cases args; simp_all
    obtain ⟨a0, rfl, rfl, rfl, w0⟩ := open_int Try.underlying5 (hval 0 5 v0 rfl rfl) h0
    exact walk w0

theorem over : Rows.typesOccursRow.holds Try.pinned (OpenSpec.ofChange Rows.typesOccursSpec) :=
  OpenClaim.holds_of_wide 3 Try.f3 rfl rfl rfl rfl rfl rfl rfl ⟨rfl, rfl, rfl, rfl, rfl⟩ rfl rfl rfl rfl rfl (by kernel_rfl) Try.func3 (by kernel_rfl)
    (of_decide_eq_true (by kernel_rfl)) (by unfold Func.isWrapper; first | (rw [if_pos (by decide +kernel)]; kernel_rfl) | (rw [if_neg (by decide +kernel)]; exact ⟨rfl, rfl⟩))
    (fun os started H enc _ => lifted os started H enc)

theorem proved : Rows.TypesOccursSaid := over
end Go.Proofs.Ytncakfcafkfmfaa.typesOccurs
