/-
  'Rows.TypesUnifySaid': any types, made one pair by pair: whether they can be, and what becomes of each; without conditions.
-/
import Derived.Test.YtncakfcafkfmfaaZf
namespace Go.Proofs.Ytncakfcafkfmfaa.typesUnify
open Go Go.ChangeShapes Go.WideShapes Go.ChangeAt Go.RowKit
set_option linter.unusedSimpArgs false
set_option linter.unusedVariables false

set_option maxRecDepth 100000 in
theorem lifted (os : Os) (started : os.Started) (H : Type) (enc : TypeId × Value → H) :
    ReturnsInHanded {} Try.checked os 7 .any (Rows.typesUnifySpec.pre6 enc Try.prog Try.f7 Rows.typesUnifyRow.domain false) (Rows.typesUnifySpec.post enc Try.prog Try.f7 false true false false) := by
  refine law_returns started Try.func7 (by kernel_rfl) rfl (fun ds h => ?_) rfl Try.underlying4 (by kernel_rfl)
    (ChangeSpec.witness6 (enc := enc) (C := Try.checked) false ⟨#[], #[.slice none 0 0], []⟩ 8 (by kernel_rfl) (by kernel_rfl) (by kernel_rfl) (by kernel_rfl)) ?_
  · match ds, h with
    | [_], _ => rfl
  · intro W base args ds ps hval hA _ hwt
    rw [Try.params7] at hA hval hwt
    obtain ⟨v0, vs0, d0, ds0, p0, q0, hargs, rfl, rfl, h0, r0⟩ := trodAll_cons hA
    obtain ⟨rfl, rfl, rfl⟩ := trodAll_nil r0
    obtain rfl : args = #[v0] := by cases args; simp_all
    simp only [DataW.weightsEach, List.all_append, Bool.and_eq_true] at hwt
    have R0 := open_slice_rep Try.underlying37 (hval 0 37 v0 rfl rfl) h0 hwt.1
    obtain ⟨xs0, ts0, hb0, hr0, ht0⟩ := rep_pairs R0
    exact walk hr0 ht0

theorem over : Rows.typesUnifyRow.holds Try.pinned (OpenSpec.ofChange Rows.typesUnifySpec) :=
  OpenClaim.holds_of_wide 7 Try.f7 rfl rfl rfl rfl rfl rfl rfl ⟨rfl, rfl, rfl, rfl, rfl⟩ rfl rfl rfl rfl rfl (by kernel_rfl) Try.func7 (by kernel_rfl)
    (of_decide_eq_true (by kernel_rfl)) (by unfold Func.isWrapper; first | (rw [if_pos (by decide +kernel)]; kernel_rfl) | (rw [if_neg (by decide +kernel)]; exact ⟨rfl, rfl⟩))
    (fun os started H enc _ => lifted os started H enc)

theorem proved : Rows.TypesUnifySaid := over
end Go.Proofs.Ytncakfcafkfmfaa.typesUnify
