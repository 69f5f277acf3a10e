/-
  'Rows.DrumApartSaid': what is done to one track doesn't touch another one; without conditions.
-/
import Derived.Test.YtejlmcdmoghmaaaFopen
import Derived.Test.YtejlmcdmoghmaaaFrep
import Derived.Test.YtejlmcdmoghmaaaDoO
namespace Go.Proofs.Ytejlmcdmoghmaaa.drumApart
open Go Go.ChangeShapes Go.WideShapes Go.ChangeAt Go.RowKit
set_option linter.unusedSimpArgs false
set_option linter.unusedVariables false

set_option maxRecDepth 100000 in
theorem lifted (os : Os) (started : os.Started) (H : Type) (enc : TypeId × Value → H) :
    ReturnsInHanded {} Try.checked os 5 .any (Rows.drumApartSpec.pre6 enc Try.prog Try.f5 Rows.drumApartRow.domain false) (Rows.drumApartSpec.post enc Try.prog Try.f5 false true false false) := by
  refine law_returns started Try.func5 (by kernel_rfl) rfl (fun ds h => ?_) rfl Try.underlying4 (by kernel_rfl)
    (ChangeSpec.witness6 (enc := enc) (C := Try.checked) false ⟨#[], #[.slice none 0 0, .slice none 0 0, .slice none 0 0, .slice none 0 0], []⟩ 8 (by kernel_rfl) (by kernel_rfl) (by kernel_rfl) (by kernel_rfl)) ?_
  · match ds, h with
    | [_, _, _, _], _ => rfl
  · intro W base args ds ps hval hA _ hwt
    rw [Try.params5] at hA hval hwt
    obtain ⟨v0, vs0, d0, ds0, p0, q0, hargs, rfl, rfl, h0, r0⟩ := trodAll_cons hA
    obtain ⟨v1, vs1, d1, ds1, p1, q1, rfl, rfl, rfl, h1, r1⟩ := trodAll_cons r0
    obtain ⟨v2, vs2, d2, ds2, p2, q2, rfl, rfl, rfl, h2, r2⟩ := trodAll_cons r1
    obtain ⟨v3, vs3, d3, ds3, p3, q3, rfl, rfl, rfl, h3, r3⟩ := trodAll_cons r2
    obtain ⟨rfl, rfl, rfl⟩ := trodAll_nil r3
    obtain rfl : args = #[v0, v1, v2, v3] := by cases args; simp_all
    simp only [DataW.weightsEach, List.all_append, Bool.and_eq_true] at hwt
    obtain ⟨l0, hr0, hl0⟩ := open_bytes Try.underlying22 Try.underlying5 (by kernel_rfl) (by kernel_rfl) (hval 0 22 v0 rfl rfl) h0 hwt.1
    obtain ⟨l1, hr1, hl1⟩ := open_bytes Try.underlying22 Try.underlying5 (by kernel_rfl) (by kernel_rfl) (hval 1 22 v1 rfl rfl) h1 hwt.2.1
    have R2 := open_slice_rep Try.underlying36 (hval 2 36 v2 rfl rfl) h2 hwt.2.2.1
    obtain ⟨l2, hr2, hA2⟩ := rep_acts R2
    obtain ⟨l3, hl3, hr3, hz3⟩ := rep_ints (open_slice_rep Try.underlying23 (hval 3 23 v3 rfl rfl) h3 hwt.2.2.2.1) Try.underlying23 Try.underlying3 (by kernel_rfl) (by decide +kernel)
    exact walk hr0 hr1 hr2 hA2

theorem over : Rows.drumApartRow.holds Try.pinned (OpenSpec.ofChange Rows.drumApartSpec) :=
  OpenClaim.holds_of_wide 5 Try.f5 rfl rfl rfl rfl rfl rfl rfl ⟨rfl, rfl, rfl, rfl, rfl⟩ rfl rfl rfl rfl rfl (by kernel_rfl) Try.func5 (by kernel_rfl)
    (of_decide_eq_true (by kernel_rfl)) (by unfold Func.isWrapper; first | (rw [if_pos (by decide +kernel)]; kernel_rfl) | (rw [if_neg (by decide +kernel)]; exact ⟨rfl, rfl⟩))
    (fun os started H enc _ => lifted os started H enc)

theorem proved : Rows.DrumApartSaid := over
end Go.Proofs.Ytejlmcdmoghmaaa.drumApart
