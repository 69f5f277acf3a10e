/-
  'Rows.PrintNamesUptoSaid': types of one name are unlike, if what they are of is; of a bounded bulk.
-/
import Derived.Test.YtomkdhkkggbioaaGreatDoorPrO
import Derived.Test.YtomkdhkkggbioaaGreatDoorPro
import Derived.Test.YtomkdhkkggbioaaGreatDoorFld
namespace Go.Proofs.YtomkdhkkggbioaaGreatDoor.printNames
open Go Go.ChangeShapes Go.WideShapes Go.ChangeAt Go.RowKit
set_option linter.unusedSimpArgs false
set_option linter.unusedVariables false

theorem three {w : World} {F : Nat → Prop} {cs : List Value} {t : Tr} (h : TR w F cs t) : ∃ x0 x1 x2, cs = [x0, x1, x2] := by
  cases h
  exact ⟨_, _, _, rfl⟩

def wit : Array Value := #[.agg #[.string ⟨#[]⟩, .int .i64 0, .slice none 0 0], .agg #[.string ⟨#[]⟩, .int .i64 0, .slice none 0 0]]
theorem laid_met (os : Os) : laidMet Tryz.prog Rows.printNamesUptoRow.laid ((World.doorLaid Tryz.prog 24 os).forCall (fun _ _ => 0) ⟨#[], wit, []⟩).memory :=
  laidMet_of_run' 8 (by kernel_rfl) (by kernel_rfl)
theorem reads (os : Os) {H : Type} (enc : TypeId × Value → H) : ∃ places, DataW.whole enc Tryz.prog ((World.doorLaid Tryz.prog 24 os).forCall (fun _ _ => 0) ⟨#[], wit, []⟩).memory Tryz.f7.params.toList Rows.printNamesSpec.vars false wit.toList 8 = some ([.agg [.lit (.string []), .lit (.int .i64 0), .nil], .agg [.lit (.string []), .lit (.int .i64 0), .nil]], [], places) :=
  ⟨[], by kernel_rfl⟩

set_option maxRecDepth 100000 in
theorem lifted (os : Os) (started : os.Started) (H : Type) (enc : TypeId × Value → H) (F : Stop.Interp) :
    ReturnsInHanded {} Tryz.checked os 7 .any ((Rows.OpenSpec.upto Rows.printNamesSpec).preRow enc Tryz.prog Tryz.f7 Rows.printNamesUptoRow.domain false Rows.printNamesUptoRow.laid) (((Rows.OpenSpec.upto Rows.printNamesSpec).at F).post enc Tryz.prog Tryz.f7 false true false false) := by
  obtain ⟨places, hx⟩ := reads os enc
  refine law_returns_upto started Tryz.func7 (by kernel_rfl) rfl (fun ds h => ?_) rfl Tryz.underlying4 (by kernel_rfl)
    (witness_row_at (enc := enc) (C := Tryz.checked) false (World.doorLaid Tryz.prog 24 os) wit rfl (by kernel_rfl) (by kernel_rfl) (by kernel_rfl)
      (OpenSpec.preRow_of_cond 8 hx (by kernel_rfl) (fun k hk => by cases hk; kernel_rfl) (by kernel_rfl) (laid_met os))) ?_
  · match ds, h with
    | [_, _], _ => rfl
  · intro W base args ds ps hP hval hA hsm hwt
    rw [Tryz.params7] at hA hval hwt
    have hbk := bulk_of hsm
    obtain ⟨v0, vs0, d0, ds0, p0, q0, hargs, rfl, rfl, h0, r0⟩ := trodAll_cons hA
    obtain ⟨v1, vs1, d1, ds1, p1, q1, rfl, rfl, rfl, h1, r1⟩ := trodAll_cons r0
    obtain ⟨rfl, rfl, rfl⟩ := trodAll_nil r1
    obtain rfl : args = #[v0, v1] := by cases args; simp_all
    have hb0 := bulk_part (d := d0) (l := [d0, d1]) (List.mem_cons_self ..)
    have hb1 := bulk_part (d := d1) (l := [d0, d1]) (List.mem_cons_of_mem _ (List.mem_cons_self ..))
    obtain ⟨fuel, h⟩ := h0
    obtain ⟨cs, rfl, hsz⟩ := okWide_struct Tryz.underlying24 (hval 0 24 v0 rfl rfl)
    obtain ⟨t, ht⟩ := open_tr (M := 1048576) (Nat.le_refl _) fuel cs.toList (d0, p0) h (Nat.le_trans hb0 hbk)
    obtain ⟨x0, x1, x2, hc⟩ := three ht
    obtain rfl : cs = #[x0, x1, x2] := Array.ext' hc
    obtain ⟨fuel1, g⟩ := h1
    obtain ⟨gs, rfl, gsz⟩ := okWide_struct Tryz.underlying24 (hval 1 24 v1 rfl rfl)
    obtain ⟨u, gt⟩ := open_tr (M := 1048576) (Nat.le_refl _) fuel1 gs.toList (d1, p1) g (Nat.le_trans hb1 hbk)
    obtain ⟨y0, y1, y2, gc⟩ := three gt
    obtain rfl : gs = #[y0, y1, y2] := Array.ext' gc
    exact walk ht gt hP

theorem over : Rows.PrintNamesUptoSaid :=
  OpenClaim.holds_of_cond 7 Tryz.f7 rfl rfl rfl rfl rfl rfl rfl ⟨rfl, rfl, rfl, rfl, rfl⟩ rfl rfl rfl rfl rfl (by kernel_rfl) Tryz.func7 (by kernel_rfl)
    (of_decide_eq_true (by kernel_rfl)) (by unfold Func.isWrapper; first | (rw [if_pos (by decide +kernel)]; kernel_rfl) | (rw [if_neg (by decide +kernel)]; exact ⟨rfl, rfl⟩))
    (fun os started H enc _ F => by rw [OpenClaim.pre_eq_preRow]; exact lifted os started H enc F)

set_option maxRecDepth 100000 in
theorem proved : Rows.PrintNamesUptoCardSaid :=
  Claim7.holds_tied_plain_at .later [] _ _ _ _
    over (fun _ h => by cases h) (by kernel_rfl) (fun _ h => by cases h) printNamesUpto_row_tie rfl ⟨rfl, rfl⟩ (by kernel_rfl) rfl
    (fun f fn hf hfn => by
      obtain rfl : f = 7 := Option.some.inj ((show Tryz.prog.funcNamed "battledore/battledorelaw05.PrintNames" = some 7 by kernel_rfl).symm.trans hf) |>.symm
      obtain rfl : fn = Tryz.f7 := (Option.some.inj (Tryz.func7.symm.trans hfn)).symm
      refine ⟨by kernel_rfl, fun j t ht => ?_⟩
      have key : (Tryz.f7.params.toList.all fun t => !Tryz.prog.wantsStandIn t) = true := by kernel_rfl
      have := List.all_eq_true.1 key t (List.mem_of_getElem? (by simpa using ht))
      exact (show Tryz.prog.wantsStandIn t = false by simpa using this))
    (by kernel_rfl)
end Go.Proofs.YtomkdhkkggbioaaGreatDoor.printNames
