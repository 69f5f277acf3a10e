/-
  'Rows.DrumSureSaid': what was synced is there behind any fall, at the beginning of what is there, unless the track was written since; without conditions.
-/
import Derived.Test.YtejlmcdmoghmaaaFopen
import Derived.Test.YtejlmcdmoghmaaaFrep
import Derived.Test.YtejlmcdmoghmaaaDk
namespace Go.Proofs.Ytejlmcdmoghmaaa.drumSure
open Go Go.ChangeShapes Go.WideShapes Go.ChangeAt Go.RowKit
set_option linter.unusedSimpArgs false
set_option linter.unusedVariables false

set_option maxRecDepth 100000 in
theorem lifted (os : Os) (started : os.Started) (H : Type) (enc : TypeId × Value → H) :
    ReturnsInHanded {} Try.checked os 3 .any (Rows.drumSureSpec.pre6 enc Try.prog Try.f3 Rows.drumSureRow.domain false) (Rows.drumSureSpec.post enc Try.prog Try.f3 false true false false) := by
  refine law_returns started Try.func3 (by kernel_rfl) rfl (fun ds h => ?_) rfl Try.underlying4 (by kernel_rfl)
    (ChangeSpec.witness6 (enc := enc) (C := Try.checked) false ⟨#[], #[.slice none 0 0, .slice none 0 0, .slice none 0 0, .bool false], []⟩ 8 (by kernel_rfl) (by kernel_rfl) (by kernel_rfl) (by kernel_rfl)) ?_
  · match ds, h with
    | [_, _, _, _], _ => rfl
  · intro W base args ds ps hval hA _ hwt
    rw [Try.params3] at hA hval hwt
    obtain ⟨v0, vs0, d0, ds0, p0, q0, hargs, rfl, rfl, h0, r0⟩ := trodAll_cons hA
    obtain ⟨v1, vs1, d1, ds1, p1, q1, rfl, rfl, rfl, h1, r1⟩ := trodAll_cons r0
    obtain ⟨v2, vs2, d2, ds2, p2, q2, rfl, rfl, rfl, h2, r2⟩ := trodAll_cons r1
    obtain ⟨v3, vs3, d3, ds3, p3, q3, rfl, rfl, rfl, h3, r3⟩ := trodAll_cons r2
    obtain ⟨rfl, rfl, rfl⟩ := trodAll_nil r3
    obtain rfl : args = #[v0, v1, v2, v3] := by cases args; simp_all
    simp only [DataW.weightsEach, List.all_append, Bool.and_eq_true] at hwt
    obtain ⟨l0, hr0, hl0⟩ := open_bytes Try.underlying22 Try.underlying5 (by kernel_rfl) (by kernel_rfl) (hval 0 22 v0 rfl rfl) h0 hwt.1
    obtain ⟨l1, hr1, hl1⟩ := open_bytes Try.underlying22 Try.underlying5 (by kernel_rfl) (by kernel_rfl) (hval 1 22 v1 rfl rfl) h1 hwt.2.1
    obtain ⟨l2, hl2, hr2, hz2⟩ := rep_ints (open_slice_rep Try.underlying23 (hval 2 23 v2 rfl rfl) h2 hwt.2.2.1) Try.underlying23 Try.underlying3 (by kernel_rfl) (by decide +kernel)
    obtain ⟨a3, rfl, rfl, rfl⟩ := open_bool Try.underlying4 (hval 3 4 v3 rfl rfl) h3
    exact walk hr0 hr1 hr2

theorem over : Rows.drumSureRow.holds Try.pinned (OpenSpec.ofChange Rows.drumSureSpec) :=
  OpenClaim.holds_of_wide 3 Try.f3 rfl rfl rfl rfl rfl rfl rfl ⟨rfl, rfl, rfl, rfl, rfl⟩ rfl rfl rfl rfl rfl (by kernel_rfl) Try.func3 (by kernel_rfl)
    (of_decide_eq_true (by kernel_rfl)) (by unfold Func.isWrapper; first | (rw [if_pos (by decide +kernel)]; kernel_rfl) | (rw [if_neg (by decide +kernel)]; exact ⟨rfl, rfl⟩))
    (fun os started H enc _ => lifted os started H enc)

theorem proved : Rows.DrumSureSaid := over
end Go.Proofs.Ytejlmcdmoghmaaa.drumSure
