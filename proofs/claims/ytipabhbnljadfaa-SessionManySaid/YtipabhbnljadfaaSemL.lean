/-
  'Rows.SessionManySaid': as many sessions as may be are taken, and no more; those that are there go on; without conditions.
-/
import Derived.Test.YtipabhbnljadfaaFopen
import Derived.Test.YtipabhbnljadfaaFrep
import Derived.Test.YtipabhbnljadfaaSem
namespace Go.Proofs.Ytipabhbnljadfaa.sessionMany
open Go Go.ChangeShapes Go.WideShapes Go.ChangeAt Go.RowKit
set_option linter.unusedSimpArgs false
set_option linter.unusedVariables false

set_option maxRecDepth 100000 in
theorem lifted (os : Os) (started : os.Started) (H : Type) (enc : TypeId × Value → H) :
    ReturnsInHanded {} Try.checked os 3 .any (Rows.sessionManySpec.pre6 enc Try.prog Try.f3 Rows.sessionManyRow.domain false) (Rows.sessionManySpec.post enc Try.prog Try.f3 false true false false) := by
  refine law_returns started Try.func3 (by kernel_rfl) rfl (fun ds h => ?_) rfl Try.underlying4 (by kernel_rfl)
    (ChangeSpec.witness6 (enc := enc) (C := Try.checked) false ⟨#[], #[.slice none 0 0, .slice none 0 0], []⟩ 8 (by kernel_rfl) (by kernel_rfl) (by kernel_rfl) (by kernel_rfl)) ?_
  · match ds, h with
    | [_, _], _ => rfl
  · intro W base args ds ps hval hA _ hwt
    rw [Try.params3] at hA hval hwt
    obtain ⟨v0, vs0, d0, ds0, p0, q0, hargs, rfl, rfl, h0, r0⟩ := trodAll_cons hA
    obtain ⟨v1, vs1, d1, ds1, p1, q1, rfl, rfl, rfl, h1, r1⟩ := trodAll_cons r0
    obtain ⟨rfl, rfl, rfl⟩ := trodAll_nil r1
    obtain rfl : args = #[v0, v1] := by cases args; simp_all
    simp only [DataW.weightsEach, List.all_append, Bool.and_eq_true] at hwt
    have R0 := open_slice_rep Try.underlying22 (hval 0 22 v0 rfl rfl) h0 hwt.1
    obtain ⟨l0, hl0, hr0, hz0⟩ := rep_ints R0 Try.underlying22 Try.underlying27 (by kernel_rfl) (by decide +kernel)
    have R1 := open_slice_rep Try.underlying23 (hval 1 23 v1 rfl rfl) h1 hwt.2.1
    obtain ⟨l1, hl1, hr1⟩ := rep_bytes R1 Try.underlying23 Try.underlying5 (by kernel_rfl) (by kernel_rfl)
    exact walk hr0 hz0 hr1

theorem over : Rows.sessionManyRow.holds Try.pinned (OpenSpec.ofChange Rows.sessionManySpec) :=
  OpenClaim.holds_of_wide 3 Try.f3 rfl rfl rfl rfl rfl rfl rfl ⟨rfl, rfl, rfl, rfl, rfl⟩ rfl rfl rfl rfl rfl (by kernel_rfl) Try.func3 (by kernel_rfl)
    (of_decide_eq_true (by kernel_rfl)) (by unfold Func.isWrapper; first | (rw [if_pos (by decide +kernel)]; kernel_rfl) | (rw [if_neg (by decide +kernel)]; exact ⟨rfl, rfl⟩))
    (fun os started H enc _ => lifted os started H enc)

theorem proved : Rows.SessionManySaid := over
end Go.Proofs.Ytipabhbnljadfaa.sessionMany
