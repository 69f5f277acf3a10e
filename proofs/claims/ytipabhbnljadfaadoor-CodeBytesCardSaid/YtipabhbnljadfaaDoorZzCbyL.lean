/-
  'Rows.CodeBytesCardSaid': any functions as bytes, and back; the tables of the program's text stand as its text lays them.
-/
import Derived.Test.YtipabhbnljadfaaDoorZg
namespace Go.Proofs.YtipabhbnljadfaaDoor.codeBytes
open Go Go.ChangeShapes Go.WideShapes Go.ChangeAt Go.RowKit
set_option linter.unusedSimpArgs false
set_option linter.unusedVariables false

set_option maxRecDepth 100000 in
theorem lifted (os : Os) (started : os.Started) (H : Type) (enc : TypeId × Value → H) :
    ReturnsInHanded {} Tryd.checked os 5 .any (fun w args => (Rows.codeBytesSpec.pre enc Tryd.prog Tryd.f5 [] false w args ∧ laidMetH Tryd.prog laidL w) ∧ sizedMet enc Tryd.prog Tryd.f5 (OpenSpec.ofChange Rows.codeBytesSpec) false w args) (Rows.codeBytesSpec.post enc Tryd.prog Tryd.f5 false true false false) := by
  refine law_returns_laid started Tryd.func5 (by kernel_rfl) rfl (fun ds h => ?_) rfl Tryd.underlying4 (by kernel_rfl)
    (ChangeSpec.witness_shaped (enc := enc) (C := Tryd.checked) (os := os) (X := fun w _ => laidMetH Tryd.prog laidL w) false (World.doorLaid Tryd.prog 19 os) #[.slice none 0 0] 8 rfl (World.shaped_of_RefB (by kernel_rfl) (by kernel_rfl)) (by kernel_rfl) (by kernel_rfl) (by kernel_rfl) (door_met os _)) ?_
  · match ds, h with
    | [_], _ => rfl
  · intro W base args ds ps hT hval hA _ hwt
    rw [Tryd.params5] at hA hval hwt
    obtain ⟨v0, vs0, d0, ds0, p0, q0, hargs, rfl, rfl, h0, r0⟩ := trodAll_cons hA
    obtain ⟨rfl, rfl, rfl⟩ := trodAll_nil r0
    obtain rfl : args = #[v0] := by cases args; simp_all
    simp only [DataW.weightsEach, List.all_append, Bool.and_eq_true] at hwt
    have R0 := open_slice_rep Tryd.underlying22 (hval 0 22 v0 rfl rfl) h0 hwt.1
    obtain ⟨l0, hi0, ho0⟩ := rep_funs R0
    exact walk hT hi0 ho0

theorem over : Rows.codeBytesRow.holds Tryd.pinned (OpenSpec.ofChange Rows.codeBytesSpec) :=
  OpenClaim.holds_of_wide 5 Tryd.f5 rfl rfl rfl rfl rfl rfl rfl ⟨rfl, rfl, rfl, rfl, rfl⟩ rfl rfl rfl rfl rfl (by kernel_rfl) Tryd.func5 (by kernel_rfl)
    (of_decide_eq_true (by kernel_rfl)) (by unfold Func.isWrapper; first | (rw [if_pos (by decide +kernel)]; kernel_rfl) | (rw [if_neg (by decide +kernel)]; exact ⟨rfl, rfl⟩))
    (fun os started H enc _ => lifted os started H enc)

set_option maxRecDepth 100000 in
theorem proved : Rows.CodeBytesCardSaid :=
  Claim7.holds_tied_plain_at .later [] [.data, .data] true (true, "77386d5b0aab3976263aacd0420d131fa4a963cadf5a21ac1a10fc5bbadba8dc") false
    over (fun _ h => by cases h) (by kernel_rfl) (fun _ h => by cases h) codeBytes_row_tie rfl ⟨rfl, rfl⟩ (by kernel_rfl) rfl
    (fun f fn hf hfn => by
      obtain rfl : f = 5 := Option.some.inj ((show Tryd.prog.funcNamed "battledore/battledorelaw08.CodeBytes" = some 5 by kernel_rfl).symm.trans hf) |>.symm
      obtain rfl : fn = Tryd.f5 := (Option.some.inj (Tryd.func5.symm.trans hfn)).symm
      refine ⟨by kernel_rfl, fun j t ht => ?_⟩
      have key : (Tryd.f5.params.toList.all fun t => !Tryd.prog.wantsStandIn t) = true := by kernel_rfl
      have := List.all_eq_true.1 key t (List.mem_of_getElem? (by simpa using ht))
      exact (show Tryd.prog.wantsStandIn t = false by simpa using this))
    (by kernel_rfl)
end Go.Proofs.YtipabhbnljadfaaDoor.codeBytes
