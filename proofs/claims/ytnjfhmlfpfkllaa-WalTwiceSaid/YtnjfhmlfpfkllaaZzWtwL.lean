/-
  'Rows.WalTwiceSaid': two logs on one drum, on tracks of their own, don't touch one another; without conditions.
-/
import Derived.Test.YtnjfhmlfpfkllaaZf
namespace Go.Proofs.Ytnjfhmlfpfkllaa.walTwice
open Go Go.ChangeShapes Go.WideShapes Go.ChangeAt Go.RowKit
set_option linter.unusedSimpArgs false
set_option linter.unusedVariables false

set_option maxRecDepth 100000 in
theorem lifted (os : Os) (started : os.Started) (H : Type) (enc : TypeId × Value → H) :
    ReturnsInHanded {} Try.checked os 4 .any (Rows.walTwiceSpec.pre6 enc Try.prog Try.f4 Rows.walTwiceRow.domain false) (Rows.walTwiceSpec.post enc Try.prog Try.f4 false true false false) := by
  refine law_returns started Try.func4 (by kernel_rfl) rfl (fun ds h => ?_) rfl Try.underlying4 (by kernel_rfl)
    (ChangeSpec.witness6 (enc := enc) (C := Try.checked) false ⟨#[], #[.slice none 0 0], []⟩ 8 (by kernel_rfl) (by kernel_rfl) (by kernel_rfl) (by kernel_rfl)) ?_
  · match ds, h with
    | [_], _ => rfl
  · intro W base args ds ps hval hA _ hwt
    rw [Try.params4] at hA hval hwt
    obtain ⟨v0, vs0, d0, ds0, p0, q0, hargs, rfl, rfl, h0, r0⟩ := trodAll_cons hA
    obtain ⟨rfl, rfl, rfl⟩ := trodAll_nil r0
    obtain rfl : args = #[v0] := by cases args; simp_all
    simp only [DataW.weightsEach, List.all_append, Bool.and_eq_true] at hwt
    have R0 := open_slice_rep Try.underlying41 (hval 0 41 v0 rfl rfl) h0 hwt.1
    obtain ⟨l0, hr0, hA0⟩ := rep_acts14 R0
    exact walk hr0 hA0

theorem over : Rows.walTwiceRow.holds Try.pinned (OpenSpec.ofChange Rows.walTwiceSpec) :=
  OpenClaim.holds_of_wide 4 Try.f4 rfl rfl rfl rfl rfl rfl rfl ⟨rfl, rfl, rfl, rfl, rfl⟩ rfl rfl rfl rfl rfl (by kernel_rfl) Try.func4 (by kernel_rfl)
    (of_decide_eq_true (by kernel_rfl)) (by unfold Func.isWrapper; first | (rw [if_pos (by decide +kernel)]; kernel_rfl) | (rw [if_neg (by decide +kernel)]; exact ⟨rfl, rfl⟩))
    (fun os started H enc _ => lifted os started H enc)

theorem proved : Rows.WalTwiceSaid := over
end Go.Proofs.Ytnjfhmlfpfkllaa.walTwice
