/-
  'Rows.StoreFullSaid': what takes more than a track may have is refused, and what stands stays; what takes less is saved; without conditions.
-/
import Derived.Test.YtejlmcdmoghmaaaFopen
import Derived.Test.YtejlmcdmoghmaaaFrep
import Derived.Test.YtejlmcdmoghmaaaSx
namespace Go.Proofs.Ytejlmcdmoghmaaa.storeFull
open Go Go.ChangeShapes Go.WideShapes Go.ChangeAt Go.RowKit
set_option linter.unusedSimpArgs false
set_option linter.unusedVariables false

set_option maxRecDepth 100000 in
theorem lifted (os : Os) (started : os.Started) (H : Type) (enc : TypeId × Value → H) :
    ReturnsInHanded {} Try.checked os 8 .any (Rows.storeFullSpec.pre6 enc Try.prog Try.f8 Rows.storeFullRow.domain false) (Rows.storeFullSpec.post enc Try.prog Try.f8 false true false false) := by
  refine law_returns started Try.func8 (by kernel_rfl) rfl (fun ds h => ?_) rfl Try.underlying4 (by kernel_rfl)
    (ChangeSpec.witness6 (enc := enc) (C := Try.checked) false ⟨#[], #[.slice none 0 0, .int .u16 0], []⟩ 8 (by kernel_rfl) (by kernel_rfl) (by kernel_rfl) (by kernel_rfl)) ?_
  · match ds, h with
    | [_, _], _ => rfl
  · intro W base args ds ps hval hA _ hwt
    rw [Try.params8] at hA hval hwt
    obtain ⟨v0, vs0, d0, ds0, p0, q0, hargs, rfl, rfl, h0, r0⟩ := trodAll_cons hA
    obtain ⟨v1, vs1, d1, ds1, p1, q1, rfl, rfl, rfl, h1, r1⟩ := trodAll_cons r0
    obtain ⟨rfl, rfl, rfl⟩ := trodAll_nil r1
    obtain rfl : args = #[v0, v1] := by cases args; simp_all
    simp only [DataW.weightsEach, List.all_append, Bool.and_eq_true] at hwt
    obtain ⟨l0, hr0, hl0⟩ := open_bytes Try.underlying22 Try.underlying5 (by kernel_rfl) (by kernel_rfl) (hval 0 22 v0 rfl rfl) h0 hwt.1
    obtain ⟨a1, rfl, rfl, rfl, w1⟩ := open_int Try.underlying43 (hval 1 43 v1 rfl rfl) h1
    exact walk (by have := bounds_u16 w1; omega) hr0

theorem over : Rows.storeFullRow.holds Try.pinned (OpenSpec.ofChange Rows.storeFullSpec) :=
  OpenClaim.holds_of_wide 8 Try.f8 rfl rfl rfl rfl rfl rfl rfl ⟨rfl, rfl, rfl, rfl, rfl⟩ rfl rfl rfl rfl rfl (by kernel_rfl) Try.func8 (by kernel_rfl)
    (of_decide_eq_true (by kernel_rfl)) (by unfold Func.isWrapper; first | (rw [if_pos (by decide +kernel)]; kernel_rfl) | (rw [if_neg (by decide +kernel)]; exact ⟨rfl, rfl⟩))
    (fun os started H enc _ => lifted os started H enc)

theorem proved : Rows.StoreFullSaid := over
end Go.Proofs.Ytejlmcdmoghmaaa.storeFull
