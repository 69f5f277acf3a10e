/-
  'Rows.HeapTwiceSaid': collected twice it is as collected once; saved and loaded it is the same; without conditions.
-/
import Derived.Test.YtdpnnclkkbfihaaDoorFopen
import Derived.Test.YtdpnnclkkbfihaaDoorFlb
import Derived.Test.YtdpnnclkkbfihaaDoorHtO
import Derived.Test.YtdpnnclkkbfihaaDoorHevd
namespace Go.Proofs.YtdpnnclkkbfihaaDoor.heapTwice
open Go Go.ChangeShapes Go.WideShapes Go.ChangeAt Go.RowKit
set_option linter.unusedSimpArgs false
set_option linter.unusedVariables false

set_option maxRecDepth 100000 in
theorem lifted (os : Os) (started : os.Started) (H : Type) (enc : TypeId × Value → H) :
    ReturnsInHanded {} Tryd.checked os 6 .any (fun w args => (Rows.heapTwiceSpec.pre enc Tryd.prog Tryd.f6 [] false w args ∧ laidMetH Tryd.prog laidL w) ∧ sizedMet enc Tryd.prog Tryd.f6 (OpenSpec.ofChange Rows.heapTwiceSpec) false w args) (Rows.heapTwiceSpec.post enc Tryd.prog Tryd.f6 false true false false) := by
  refine law_returns_laid started Tryd.func6 (by kernel_rfl) rfl (fun ds h => ?_) rfl Tryd.underlying4 (by kernel_rfl)
    (ChangeSpec.witness_shaped (enc := enc) (C := Tryd.checked) (os := os) (X := fun w _ => laidMetH Tryd.prog laidL w) false (World.doorLaid Tryd.prog 28 os) #[.slice none 0 0, .slice none 0 0] 8 rfl (World.shaped_of_RefB (by kernel_rfl) (by kernel_rfl)) (by kernel_rfl) (by kernel_rfl) (by kernel_rfl) (door_met os _)) ?_
  · match ds, h with
    | [_, _], _ => rfl
  · intro W base args ds ps hval hA _ hwt
    rw [Tryd.params6] at hA hval hwt
    obtain ⟨v0, vs0, d0, ds0, p0, q0, hargs, rfl, rfl, h0, r0⟩ := trodAll_cons hA
    obtain ⟨v1, vs1, d1, ds1, p1, q1, rfl, rfl, rfl, h1, r1⟩ := trodAll_cons r0
    obtain ⟨rfl, rfl, rfl⟩ := trodAll_nil r1
    obtain rfl : args = #[v0, v1] := by cases args; simp_all
    simp only [DataW.weightsEach, List.all_append, Bool.and_eq_true] at hwt
    have R0 := open_slice_rep Tryd.underlying46 (hval 0 46 v0 rfl rfl) h0 hwt.1
    obtain ⟨l0, hr0, hs0⟩ := rep_words R0 Tryd.underlying46 Tryd.underlying31 (by kernel_rfl) (by decide +kernel)
    have R1 := open_slice_rep Tryd.underlying46 (hval 1 46 v1 rfl rfl) h1 hwt.2.1
    obtain ⟨l1, hr1, hs1⟩ := rep_words R1 Tryd.underlying46 Tryd.underlying31 (by kernel_rfl) (by decide +kernel)
    exact walk hr0 (fun k h => h) hs0 hr1 (fun k h => h) hs1

theorem over : Rows.heapTwiceRow.holds Tryd.pinned (OpenSpec.ofChange Rows.heapTwiceSpec) :=
  OpenClaim.holds_of_wide 6 Tryd.f6 rfl rfl rfl rfl rfl rfl rfl ⟨rfl, rfl, rfl, rfl, rfl⟩ rfl rfl rfl rfl rfl (by kernel_rfl) Tryd.func6 (by kernel_rfl)
    (of_decide_eq_true (by kernel_rfl)) (by unfold Func.isWrapper; first | (rw [if_pos (by decide +kernel)]; kernel_rfl) | (rw [if_neg (by decide +kernel)]; exact ⟨rfl, rfl⟩))
    (fun os started H enc _ => lifted os started H enc)

set_option maxRecDepth 100000 in
theorem proved : Rows.HeapTwiceCardSaid :=
  Claim7.holds_tied_plain_at .later [] [.sentinel] true (true, "00ef5fd303b9b530b6b09b1176f430bda19a18fd7b10a1c20ad9a85d95ebe68d") false
    over (fun _ h => by cases h) (by kernel_rfl) (fun _ h => by cases h) heapTwice_row_tie rfl ⟨rfl, rfl⟩ (by kernel_rfl) rfl
    (fun f fn hf hfn => by
      obtain rfl : f = 6 := Option.some.inj ((show Tryd.prog.funcNamed "battledore/battledorelaw09.HeapTwice" = some 6 by kernel_rfl).symm.trans hf) |>.symm
      obtain rfl : fn = Tryd.f6 := (Option.some.inj (Tryd.func6.symm.trans hfn)).symm
      refine ⟨by kernel_rfl, fun j t ht => ?_⟩
      have key : (Tryd.f6.params.toList.all fun t => !Tryd.prog.wantsStandIn t) = true := by kernel_rfl
      have := List.all_eq_true.1 key t (List.mem_of_getElem? (by simpa using ht))
      exact (show Tryd.prog.wantsStandIn t = false by simpa using this))
    (by kernel_rfl)
end Go.Proofs.YtdpnnclkkbfihaaDoor.heapTwice
