/-
  'Rows.HeapTextsSaid': any texts, kept while others come and go, are what they were, wherever they stand; without conditions.
-/
import Derived.Test.YtdpnnclkkbfihaaDoorFopen
import Derived.Test.YtdpnnclkkbfihaaDoorFlb
import Derived.Test.YtdpnnclkkbfihaaDoorHet
namespace Go.Proofs.YtdpnnclkkbfihaaDoor.heapTexts
open Go Go.ChangeShapes Go.WideShapes Go.ChangeAt Go.RowKit
set_option linter.unusedSimpArgs false
set_option linter.unusedVariables false

set_option maxRecDepth 100000 in
theorem lifted (os : Os) (started : os.Started) (H : Type) (enc : TypeId × Value → H) :
    ReturnsInHanded {} Tryd.checked os 3 .any (fun w args => (Rows.heapTextsSpec.pre enc Tryd.prog Tryd.f3 [] false w args ∧ laidMetH Tryd.prog laidL w) ∧ sizedMet enc Tryd.prog Tryd.f3 (OpenSpec.ofChange Rows.heapTextsSpec) false w args) (Rows.heapTextsSpec.post enc Tryd.prog Tryd.f3 false true false false) := by
  refine law_returns_laid started Tryd.func3 (by kernel_rfl) rfl (fun ds h => ?_) rfl Tryd.underlying4 (by kernel_rfl)
    (ChangeSpec.witness_shaped (enc := enc) (C := Tryd.checked) (os := os) (X := fun w _ => laidMetH Tryd.prog laidL w) false (World.doorLaid Tryd.prog 28 os) #[.slice none 0 0, .int .u32 0] 8 rfl (World.shaped_of_RefB (by kernel_rfl) (by kernel_rfl)) (by kernel_rfl) (by kernel_rfl) (by kernel_rfl) (door_met os _)) ?_
  · match ds, h with
    | [_, _], _ => rfl
  · intro W base args ds ps hval hA _ hwt
    rw [Tryd.params3] at hA hval hwt
    obtain ⟨v0, vs0, d0, ds0, p0, q0, hargs, rfl, rfl, h0, r0⟩ := trodAll_cons hA
    obtain ⟨v1, vs1, d1, ds1, p1, q1, rfl, rfl, rfl, h1, r1⟩ := trodAll_cons r0
    obtain ⟨rfl, rfl, rfl⟩ := trodAll_nil r1
    obtain rfl : args = #[v0, v1] := by cases args; simp_all
    simp only [DataW.weightsEach, List.all_append, Bool.and_eq_true] at hwt
    have R0 := open_slice_rep Tryd.underlying22 (hval 0 22 v0 rfl rfl) h0 hwt.1
    obtain ⟨l0, hr0, hs0⟩ := rep_strs R0 Tryd.underlying22 Tryd.underlying9 (by kernel_rfl) (by decide +kernel)
    obtain ⟨a1, rfl, rfl, rfl, w1⟩ := open_int Tryd.underlying23 (hval 1 23 v1 rfl rfl) h1
    replace w1 : 0 ≤ a1 ∧ a1 ≤ 4294967295 := by simpa [Lit.wf, IntKind.min, IntKind.max, IntKind.signed, IntKind.bits] using w1
    obtain ⟨m1, rfl⟩ : ∃ m : Nat, a1 = m := ⟨a1.toNat, by omega⟩
    exact walk hr0 (fun k h => h) (by omega)

theorem over : Rows.heapTextsRow.holds Tryd.pinned (OpenSpec.ofChange Rows.heapTextsSpec) :=
  OpenClaim.holds_of_wide 3 Tryd.f3 rfl rfl rfl rfl rfl rfl rfl ⟨rfl, rfl, rfl, rfl, rfl⟩ rfl rfl rfl rfl rfl (by kernel_rfl) Tryd.func3 (by kernel_rfl)
    (of_decide_eq_true (by kernel_rfl)) (by unfold Func.isWrapper; first | (rw [if_pos (by decide +kernel)]; kernel_rfl) | (rw [if_neg (by decide +kernel)]; exact ⟨rfl, rfl⟩))
    (fun os started H enc _ => lifted os started H enc)

set_option maxRecDepth 100000 in
theorem proved : Rows.HeapTextsCardSaid :=
  Claim7.holds_tied_plain_at .later [] [.sentinel] true (true, "00ef5fd303b9b530b6b09b1176f430bda19a18fd7b10a1c20ad9a85d95ebe68d") false
    over (fun _ h => by cases h) (by kernel_rfl) (fun _ h => by cases h) heapTexts_row_tie rfl ⟨rfl, rfl⟩ (by kernel_rfl) rfl
    (fun f fn hf hfn => by
      obtain rfl : f = 3 := Option.some.inj ((show Tryd.prog.funcNamed "battledore/battledorelaw09.HeapTexts" = some 3 by kernel_rfl).symm.trans hf) |>.symm
      obtain rfl : fn = Tryd.f3 := (Option.some.inj (Tryd.func3.symm.trans hfn)).symm
      refine ⟨by kernel_rfl, fun j t ht => ?_⟩
      have key : (Tryd.f3.params.toList.all fun t => !Tryd.prog.wantsStandIn t) = true := by kernel_rfl
      have := List.all_eq_true.1 key t (List.mem_of_getElem? (by simpa using ht))
      exact (show Tryd.prog.wantsStandIn t = false by simpa using this))
    (by kernel_rfl)
end Go.Proofs.YtdpnnclkkbfihaaDoor.heapTexts
