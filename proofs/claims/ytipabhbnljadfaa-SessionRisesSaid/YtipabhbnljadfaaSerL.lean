/-
  'Rows.SessionRisesSaid': a session's numbers rise; what was answered to the last one stays till the next; without conditions.
-/
import Derived.Test.YtipabhbnljadfaaFopen
import Derived.Test.YtipabhbnljadfaaFrep
import Derived.Test.YtipabhbnljadfaaSer
namespace Go.Proofs.Ytipabhbnljadfaa.sessionRises
open Go Go.ChangeShapes Go.WideShapes Go.ChangeAt Go.RowKit
set_option linter.unusedSimpArgs false
set_option linter.unusedVariables false

set_option maxRecDepth 100000 in
theorem lifted (os : Os) (started : os.Started) (H : Type) (enc : TypeId × Value → H) :
    ReturnsInHanded {} Try.checked os 4 .any (Rows.sessionRisesSpec.pre6 enc Try.prog Try.f4 Rows.sessionRisesRow.domain false) (Rows.sessionRisesSpec.post enc Try.prog Try.f4 false true false false) := by
  refine law_returns started Try.func4 (by kernel_rfl) rfl (fun ds h => ?_) rfl Try.underlying4 (by kernel_rfl)
    (ChangeSpec.witness6 (enc := enc) (C := Try.checked) false ⟨#[], #[.int .u64 0, .slice none 0 0], []⟩ 8 (by kernel_rfl) (by kernel_rfl) (by kernel_rfl) (by kernel_rfl)) ?_
  · match ds, h with
    | [_, _], _ => rfl
  · intro W base args ds ps hval hA _ hwt
    rw [Try.params4] at hA hval hwt
    obtain ⟨v0, vs0, d0, ds0, p0, q0, hargs, rfl, rfl, h0, r0⟩ := trodAll_cons hA
    obtain ⟨v1, vs1, d1, ds1, p1, q1, rfl, rfl, rfl, h1, r1⟩ := trodAll_cons r0
    obtain ⟨rfl, rfl, rfl⟩ := trodAll_nil r1
    obtain rfl : args = #[v0, v1] := by cases args; simp_all
    simp only [DataW.weightsEach, List.all_append, Bool.and_eq_true] at hwt
    obtain ⟨a0, rfl, rfl, rfl, w0⟩ := open_int Try.underlying27 (hval 0 27 v0 rfl rfl) h0
    have R1 := open_slice_rep Try.underlying22 (hval 1 22 v1 rfl rfl) h1 hwt.2.1
    obtain ⟨l1, hl1, hr1, hz1⟩ := rep_ints R1 Try.underlying22 Try.underlying27 (by kernel_rfl) (by decide +kernel)
    replace w0 : 0 ≤ a0 ∧ a0 ≤ 18446744073709551615 := by simpa [Lit.wf, IntKind.min, IntKind.max, IntKind.signed, IntKind.bits] using w0
    obtain ⟨m, rfl⟩ : ∃ m : Nat, a0 = m := ⟨a0.toNat, by omega⟩
    exact walk (by omega) hr1 hz1

theorem over : Rows.sessionRisesRow.holds Try.pinned (OpenSpec.ofChange Rows.sessionRisesSpec) :=
  OpenClaim.holds_of_wide 4 Try.f4 rfl rfl rfl rfl rfl rfl rfl ⟨rfl, rfl, rfl, rfl, rfl⟩ rfl rfl rfl rfl rfl (by kernel_rfl) Try.func4 (by kernel_rfl)
    (of_decide_eq_true (by kernel_rfl)) (by unfold Func.isWrapper; first | (rw [if_pos (by decide +kernel)]; kernel_rfl) | (rw [if_neg (by decide +kernel)]; exact ⟨rfl, rfl⟩))
    (fun os started H enc _ => lifted os started H enc)

theorem proved : Rows.SessionRisesSaid := over
end Go.Proofs.Ytipabhbnljadfaa.sessionRises
