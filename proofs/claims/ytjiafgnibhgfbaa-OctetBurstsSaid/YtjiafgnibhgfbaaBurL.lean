/-
  'Rows.OctetBurstsSaid': sealed bytes of which some bits that stand within 32 that follow one another are turned are refused; without conditions.
-/
import Derived.Test.YtjiafgnibhgfbaaFopen
import Derived.Test.YtjiafgnibhgfbaaBur
namespace Go.Proofs.Ytjiafgnibhgfbaa.octetBursts
open Go Go.ChangeShapes Go.WideShapes Go.ChangeAt Go.RowKit
set_option linter.unusedSimpArgs false
set_option linter.unusedVariables false

set_option maxRecDepth 100000 in
theorem lifted (os : Os) (started : os.Started) (H : Type) (enc : TypeId × Value → H) :
    ReturnsInHanded {} Try.checked os 12 .any (Rows.octetBurstsSpec.pre6 enc Try.prog Try.f12 Rows.octetBurstsRow.domain false) (Rows.octetBurstsSpec.post enc Try.prog Try.f12 false true false false) := by
  refine law_returns started Try.func12 (by kernel_rfl) rfl (fun ds h => ?_) rfl Try.underlying4 (by kernel_rfl)
    (ChangeSpec.witness6 (enc := enc) (C := Try.checked) false ⟨#[], #[.slice none 0 0, .int .u16 0, .int .u32 0], []⟩ 8 (by kernel_rfl) (by kernel_rfl) (by kernel_rfl) (by kernel_rfl)) ?_
  · match ds, h with
    | [_, _, _], _ => rfl
  · intro W base args ds ps hval hA _ hwt
    rw [Try.params12] at hA hval hwt
    obtain ⟨v0, vs0, d0, ds0, p0, q0, hargs, rfl, rfl, h0, r0⟩ := trodAll_cons hA
    obtain ⟨v1, vs1, d1, ds1, p1, q1, rfl, rfl, rfl, h1, r1⟩ := trodAll_cons r0
    obtain ⟨v2, vs2, d2, ds2, p2, q2, rfl, rfl, rfl, h2, r2⟩ := trodAll_cons r1
    obtain ⟨rfl, rfl, rfl⟩ := trodAll_nil r2
    obtain rfl : args = #[v0, v1, v2] := by cases args; simp_all
    simp only [DataW.weightsEach, List.all_append, Bool.and_eq_true] at hwt
    obtain ⟨l0, hr0, hl0⟩ := open_bytes Try.underlying37 Try.underlying5 (by kernel_rfl) (by kernel_rfl) (hval 0 37 v0 rfl rfl) h0 hwt.1
    obtain ⟨a1, rfl, rfl, rfl, w1⟩ := open_int Try.underlying64 (hval 1 64 v1 rfl rfl) h1
    obtain ⟨a2, rfl, rfl, rfl, w2⟩ := open_int Try.underlying57 (hval 2 57 v2 rfl rfl) h2
    exact walk hr0 hl0 w1 w2

theorem over : Rows.octetBurstsRow.holds Try.pinned (OpenSpec.ofChange Rows.octetBurstsSpec) :=
  OpenClaim.holds_of_wide 12 Try.f12 rfl rfl rfl rfl rfl rfl rfl ⟨rfl, rfl, rfl, rfl, rfl⟩ rfl rfl rfl rfl rfl (by kernel_rfl) Try.func12 (by kernel_rfl)
    (of_decide_eq_true (by kernel_rfl)) (by unfold Func.isWrapper; first | (rw [if_pos (by decide +kernel)]; kernel_rfl) | (rw [if_neg (by decide +kernel)]; exact ⟨rfl, rfl⟩))
    (fun os started H enc _ => lifted os started H enc)

theorem proved : Rows.OctetBurstsSaid := over
end Go.Proofs.Ytjiafgnibhgfbaa.octetBursts
