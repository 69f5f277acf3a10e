/-
  'Rows.PrintVarsSaid': variables have unlike names; without conditions.
-/
import Derived.Test.YtomkdhkkggbioaaGreatDoorFopen
import Derived.Test.YtomkdhkkggbioaaGreatDoorFlc
import Derived.Test.YtomkdhkkggbioaaGreatDoorPrh
namespace Go.Proofs.YtomkdhkkggbioaaGreatDoor.printVars
open Go Go.ChangeShapes Go.WideShapes Go.ChangeAt Go.RowKit
set_option linter.unusedSimpArgs false
set_option linter.unusedVariables false

set_option maxRecDepth 100000 in
theorem lifted (os : Os) (started : os.Started) (H : Type) (enc : TypeId × Value → H) :
    ReturnsInHanded {} Tryz.checked os 6 .any (fun w args => (Rows.printVarsSpec.pre enc Tryz.prog Tryz.f6 [] false w args ∧ laidMetH Tryz.prog laidL w) ∧ sizedMet enc Tryz.prog Tryz.f6 (OpenSpec.ofChange Rows.printVarsSpec) false w args) (Rows.printVarsSpec.post enc Tryz.prog Tryz.f6 false true false false) := by
  refine law_returns_laid started Tryz.func6 (by kernel_rfl) rfl (fun ds h => ?_) rfl Tryz.underlying4 (by kernel_rfl)
    (ChangeSpec.witness_shaped (enc := enc) (C := Tryz.checked) (os := os) (X := fun w _ => laidMetH Tryz.prog laidL w) false (World.doorLaid Tryz.prog 24 os) #[.int .i64 0, .int .i64 0] 8 rfl (World.shaped_of_RefB (by kernel_rfl) (by kernel_rfl)) (by kernel_rfl) (by kernel_rfl) (by kernel_rfl) (door_met os _)) ?_
  · match ds, h with
    | [_, _], _ => rfl
  · intro W base args ds ps hP hval hA _ hwt
    rw [Tryz.params6] at hA hval hwt
    obtain ⟨v0, vs0, d0, ds0, p0, q0, hargs, rfl, rfl, h0, r0⟩ := trodAll_cons hA
    obtain ⟨v1, vs1, d1, ds1, p1, q1, rfl, rfl, rfl, h1, r1⟩ := trodAll_cons r0
    obtain ⟨rfl, rfl, rfl⟩ := trodAll_nil r1
    obtain rfl : args = #[v0, v1] := by cases args; simp_all
    obtain ⟨a0, rfl, rfl, rfl, w0⟩ := open_int Tryz.underlying3 (hval 0 3 v0 rfl rfl) h0
    obtain ⟨a1, rfl, rfl, rfl, w1⟩ := open_int Tryz.underlying3 (hval 1 3 v1 rfl rfl) h1
    have k0 : inK .i64 a0 := by simpa [inK, Lit.wf, IntKind.min, IntKind.max, IntKind.signed, IntKind.bits] using w0
    have k1 : inK .i64 a1 := by simpa [inK, Lit.wf, IntKind.min, IntKind.max, IntKind.signed, IntKind.bits] using w1
    exact walk k0 k1 hP

theorem over : Rows.printVarsRow.holds Tryz.pinned (OpenSpec.ofChange Rows.printVarsSpec) :=
  OpenClaim.holds_of_wide 6 Tryz.f6 rfl rfl rfl rfl rfl rfl rfl ⟨rfl, rfl, rfl, rfl, rfl⟩ rfl rfl rfl rfl rfl (by kernel_rfl) Tryz.func6 (by kernel_rfl)
    (of_decide_eq_true (by kernel_rfl)) (by unfold Func.isWrapper; first | (rw [if_pos (by decide +kernel)]; kernel_rfl) | (rw [if_neg (by decide +kernel)]; exact ⟨rfl, rfl⟩))
    (fun os started H enc _ => lifted os started H enc)

set_option maxRecDepth 100000 in
theorem proved : Rows.PrintVarsCardSaid :=
  Claim7.holds_tied_plain_at .later [] [.data, .data, .data] true (true, "64992e859df6aeb8546bec979d033e1947e7c9159be6ea6f74cc8a1c61aca9f3") true
    over (fun _ h => by cases h) (by kernel_rfl) (fun _ h => by cases h) printVars_row_tie rfl ⟨rfl, rfl⟩ (by kernel_rfl) rfl
    (fun f fn hf hfn => by
      obtain rfl : f = 6 := Option.some.inj ((show Tryz.prog.funcNamed "battledore/battledorelaw05.PrintVars" = some 6 by kernel_rfl).symm.trans hf) |>.symm
      obtain rfl : fn = Tryz.f6 := (Option.some.inj (Tryz.func6.symm.trans hfn)).symm
      refine ⟨by kernel_rfl, fun j t ht => ?_⟩
      have key : (Tryz.f6.params.toList.all fun t => !Tryz.prog.wantsStandIn t) = true := by kernel_rfl
      have := List.all_eq_true.1 key t (List.mem_of_getElem? (by simpa using ht))
      exact (show Tryz.prog.wantsStandIn t = false by simpa using this))
    (by kernel_rfl)
end Go.Proofs.YtomkdhkkggbioaaGreatDoor.printVars
