/-
  'Rows.TypesGeneralSaid': what makes two types one is the most general: whatever else makes them one is made of it; without conditions.
-/
import Derived.Test.YtncakfcafkfmfaaFopen
import Derived.Test.YtncakfcafkfmfaaTyp
import Derived.Test.YtncakfcafkfmfaaTyO
namespace Go.Proofs.Ytncakfcafkfmfaa.typesGeneral
open Go Go.ChangeShapes Go.WideShapes Go.ChangeAt Go.RowKit
set_option linter.unusedSimpArgs false
set_option linter.unusedVariables false

set_option maxRecDepth 100000 in
theorem lifted (os : Os) (started : os.Started) (H : Type) (enc : TypeId × Value → H) :
    ReturnsInHanded {} Try.checked os 4 .any (Rows.typesGeneralSpec.pre6 enc Try.prog Try.f4 Rows.typesGeneralRow.domain false) (Rows.typesGeneralSpec.post enc Try.prog Try.f4 false true false false) := by
  refine law_returns started Try.func4 (by kernel_rfl) rfl (fun ds h => ?_) rfl Try.underlying4 (by kernel_rfl)
    (ChangeSpec.witness6 (enc := enc) (C := Try.checked) false ⟨#[], #[.agg #[.string ⟨#[]⟩, .int .i64 0, .slice none 0 0], .agg #[.string ⟨#[]⟩, .int .i64 0, .slice none 0 0], .slice none 0 0], []⟩ 8 (by kernel_rfl) (by kernel_rfl) (by kernel_rfl) (by kernel_rfl)) ?_
  · match ds, h with
    | [_, _, _], _ => rfl
  · intro W base args ds ps hval hA _ hwt
    rw [Try.params4] at hA hval hwt
    obtain ⟨v0, vs0, d0, ds0, p0, q0, hargs, rfl, rfl, h0, r0⟩ := trodAll_cons hA
    obtain ⟨v1, vs1, d1, ds1, p1, q1, rfl, rfl, rfl, h1, r1⟩ := trodAll_cons r0
    obtain ⟨v2, vs2, d2, ds2, p2, q2, rfl, rfl, rfl, h2, r2⟩ := trodAll_cons r1
    obtain ⟨rfl, rfl, rfl⟩ := trodAll_nil r2
    obtain rfl : args = #[v0, v1, v2] := by cases args; simp_all
    simp only [DataW.weightsEach, List.all_append, Bool.and_eq_true] at hwt
    obtain ⟨a0, b0, c0, t0, rfl, k0⟩ := arg_tr (hval 0 28 v0 rfl rfl) h0 hwt.1
    obtain ⟨a1, b1, c1, t1, rfl, k1⟩ := arg_tr (hval 1 28 v1 rfl rfl) h1 hwt.2.1
    have R2 := open_slice_rep Try.underlying26 (hval 2 26 v2 rfl rfl) h2 hwt.2.2.1
    obtain ⟨xs2, ts2, hb2, hr2, ht2⟩ := rep_trs R2
    exact walk k0 k1 hr2 ht2

theorem over : Rows.typesGeneralRow.holds Try.pinned (OpenSpec.ofChange Rows.typesGeneralSpec) :=
  OpenClaim.holds_of_wide 4 Try.f4 rfl rfl rfl rfl rfl rfl rfl ⟨rfl, rfl, rfl, rfl, rfl⟩ rfl rfl rfl rfl rfl (by kernel_rfl) Try.func4 (by kernel_rfl)
    (of_decide_eq_true (by kernel_rfl)) (by unfold Func.isWrapper; first | (rw [if_pos (by decide +kernel)]; kernel_rfl) | (rw [if_neg (by decide +kernel)]; exact ⟨rfl, rfl⟩))
    (fun os started H enc _ => lifted os started H enc)

theorem proved : Rows.TypesGeneralSaid := over
end Go.Proofs.Ytncakfcafkfmfaa.typesGeneral
