/-
  Law 05: PrintTypes.
-/
import Derived.Test.YtomkdhkkggbioaaGreatDoorPrl
namespace Go.Proofs.YtomkdhkkggbioaaGreatDoor
open Go
set_option linter.unusedSimpArgs false
set_option linter.unusedVariables false

theorem Type9_ok {W : World} {x0 x1 x2 : Value} {s : List UInt8} (h : RPr W [x0, x1, x2] 0 s) : Ret Tryz.prog 14 #[.agg #[x0, x1, x2], .int .i64 0] W fun u w' => u = Sv s ∧ Upd No W w' := h W (Upd.refl _ _)
theorem printTypes.walk {w : World} {F : Nat → Prop} {x0 x1 x2 : Value} {t : Tr} (ht : TR w F [x0, x1, x2] t) (hP : Pow10 w) : Ret Tryz.prog 3 #[.agg #[x0, x1, x2]] w fun v w' => v = .bool true ∧ Upd No w w' := by
  have ho := ht.one
  refine enterRet (vs := [_]) (N := 15) Tryz.func3 rfl rfl rfl ?_
  have hU := Upd.refl No w
  refine WC.keep [(0, _)] ⟨rfl, trivial⟩ ?_
  refine WC.seq ?_
  refine WC.region ?_
  refine WL.cons (SO.alloc rfl rfl rfl rfl (r_boxAgg rfl (ev_t rfl)) ?_)
  intro w1 hu1 hB1 hz1
  have hs1 := hu1.size
  replace hU := hU.transA hu1
  refine WL.val rfl rfl rfl rfl (r_assign rfl ev_c) ?_
  refine WL.nil ?_
  refine WX.keep [(1, _)] ⟨rfl, trivial⟩ ?_
  have hb := hB1
  change Blk _ _ #[x0, x1, x2] _ at hb
  refine WX.next ?_
  refine WC.seq ?_
  refine WC.seq ?_
  refine WC.region ?_
  refine WL.val rfl rfl rfl rfl (r_loadAgg (vs := [_, _, _]) rfl (ev_t rfl) agg_24 size_24 (Blk.cellsL hb)) ?_
  refine WL.cons (SO.call (small_ok 9 _ 0 [x0, x1, x2] t rfl (ht.upd hU)) rfl body_11 ⟨(ev_t rfl), ev_c, trivial⟩ rfl rfl rfl rfl ?_)
  rintro v9 w2 ⟨rfl, hu2⟩
  have hs2 := hu2.size
  replace hU := hU.transA hu2
  replace hb := hb.upd hu2 (fun h => h)
  refine WL.val rfl rfl rfl rfl (r_not rfl (ev_t rfl)) ?_
  refine WL.nil ?_
  refine WX.keep [(1, _), (5, _)] ⟨rfl, rfl, trivial⟩ ?_
  refine WX.next ?_
  refine WC.cond rfl (ev_t rfl) (fun hc1 => ?_) (fun hc1 => ?_)
  · try (exfalso; first | (simp at hc1; done) | (simp only [decide_eq_true_eq, decide_eq_false_iff_not, Bool.not_eq_true', Bool.not_eq_false', Bool.not_eq_true, Bool.not_eq_false] at hc1; omega) | omega)
    all_goals
     try simp only [decide_eq_true_eq, decide_eq_false_iff_not, Bool.not_eq_true', Bool.not_eq_false', Bool.not_eq_true, Bool.not_eq_false, Option.isNone_none, Option.isNone_some, Option.isSome_none, Option.isSome_some, ne_eq, Decidable.not_not] at hc1
     refine WC.seq ?_
     refine WC.region ?_
     refine WL.cons (SO.call (awake05_ok _ (hP.upd hU (fun k _ h => h))) rfl body_12 trivial rfl rfl rfl rfl ?_)
     rintro v9 w3 ⟨rfl, hu3⟩
     have hs3 := hu3.size
     replace hU := hU.transA hu3
     replace hb := hb.upd hu3 (fun h => h)
     refine WL.val rfl rfl rfl rfl (r_assign rfl (ev_t rfl)) ?_
     refine WL.nil ?_
     refine WX.keep [(2, _)] ⟨rfl, trivial⟩ ?_
     refine WX.next ?_
     refine WC.ret ?_
     refine WX.thenRet ?_
     refine WX.retE1 rfl rfl ?_
     exact ⟨rfl, hU⟩
  · try (exfalso; first | (simp at hc1; done) | (simp only [decide_eq_true_eq, decide_eq_false_iff_not, Bool.not_eq_true', Bool.not_eq_false', Bool.not_eq_true, Bool.not_eq_false] at hc1; omega) | omega)
    all_goals
     try simp only [decide_eq_true_eq, decide_eq_false_iff_not, Bool.not_eq_true', Bool.not_eq_false', Bool.not_eq_true, Bool.not_eq_false, Option.isNone_none, Option.isNone_some, Option.isSome_none, Option.isSome_some, ne_eq, Decidable.not_not] at hc1
     refine WC.skip ?_
     refine WX.next ?_
     refine WC.seq ?_
     have hsm : smallF 9 t = true := by simpa using hc1
     refine WC.draws' (fun u0_ u1_ => Upd No u0_ u1_) (fun j => [1, 0, 0, 1, 0, 2, 0, 0, 0].getD j 0) (.one 0 (.calm 1 (.held 2 (.held 4 (.one 3 (.one 5 (.calm 6 (.calm 7 (.calm 8 (.done)))))))))) mixed (by kernel_rfl) (by repeat (first | with_reducible exact Deaf.body | with_reducible apply Deaf.then | with_reducible apply Deaf.block)) ?_
     intro w4 hu4
     have hz4 := congrArg Array.size hu4.2.2.2
     replace hu4 := Upd.of_draw hu4
     have hs4 := hu4.size
     replace hU := hU.transA hu4
     replace hb := hb.upd hu4 (fun h => h)
     have hS3 := Upd.refl No w4
     have hb0 := hb
     refine WN.step _ rfl (SO.call (awake05_ok _ (hP.upd hU (fun k _ h => h))) rfl body_12 trivial rfl rfl rfl rfl ?_)
     rintro v9 w5 ⟨rfl, hu5⟩
     have hs5 := hu5.size
     replace hS3 := Upd.transA hS3 hu5
     replace hU := hU.transA hu5
     replace hb := hb.upd hu5 (fun h => h)
     refine ⟨hS3, ?_⟩
     refine WN.calm _ rfl rfl rfl rfl rfl (fun _ => r_move rfl (ev_t rfl)) ?_
     refine WN.cases 8 rfl (fun hb3_1 => ?_) (fun hb3_1 => ?_)
     · try (exfalso; first | (simp at hb3_1; done) | (simp only [decide_eq_true_eq, decide_eq_false_iff_not, Bool.not_eq_true', Bool.not_eq_false', Bool.not_eq_true, Bool.not_eq_false] at hb3_1; omega) | omega)
       all_goals
        try simp only [decide_eq_true_eq, decide_eq_false_iff_not, Bool.not_eq_true', Bool.not_eq_false', Bool.not_eq_true, Bool.not_eq_false, Option.isNone_none, Option.isNone_some, Option.isSome_none, Option.isSome_some, ne_eq, Decidable.not_not] at hb3_1
        refine WN.held _ rfl rfl rfl rfl rfl hS3 (fun w' hS => r_loadAgg (vs := [_, _, _]) rfl (ev_t rfl) agg_24 size_24 (Blk.cellsL (hb0.upd hS (fun h => h)))) ?_
        refine WN.held _ rfl rfl rfl rfl rfl hS3 (fun w' hS => r_loadAgg (vs := [_, _, _]) rfl (ev_t rfl) agg_24 size_24 (Blk.cellsL (hb0.upd hS (fun h => h)))) ?_
        refine WN.step _ rfl (SO.call (Type_ok (TPr.all 9 t _ _ (by omega) hsm (ht.upd hU) (hP.upd hU (fun k _ h => h)) 0) ho) rfl body_13 ⟨(ev_t rfl), trivial⟩ rfl rfl rfl rfl ?_)
        rintro v9 w6 ⟨rfl, hu6⟩
        have hs6 := hu6.size
        replace hS3 := Upd.transA hS3 hu6
        replace hU := hU.transA hu6
        replace hb := hb.upd hu6 (fun h => h)
        refine ⟨hS3, ?_⟩
        refine WN.step _ rfl (SO.call (Type9_ok (RPr.all 9 t _ _ (by omega) hsm (ht.upd hU) 0)) rfl body_14 ⟨(ev_t rfl), ev_c, trivial⟩ rfl rfl rfl rfl ?_)
        rintro v9 w7 ⟨rfl, hu7⟩
        have hs7 := hu7.size
        try replace hS3 := Upd.transA hS3 hu7
        replace hU := hU.transA hu7
        replace hb := hb.upd hu7 (fun h => h)
        refine ⟨trivial, ?_⟩
        refine WN.calm _ rfl rfl rfl rfl rfl (fun _ => r_eqlStrL (s := typS 9 t 0) (s' := typS 9 t 0) rfl (ev_t rfl) (ev_t rfl)) ?_
        refine WN.calm _ rfl rfl rfl rfl rfl (fun _ => r_pickT rfl (ev_t rfl) (ev_t rfl)) ?_
        refine WN.calm _ rfl rfl rfl rfl rfl (fun _ => r_assign rfl (ev_t rfl)) ?_
        refine WN.done ?_
        refine WX.keep [(2, _)] ⟨rfl, trivial⟩ ?_
        refine WX.next ?_
        refine WC.ret ?_
        refine WX.retE1 rfl rfl ?_
        exact ⟨by simp, hU⟩
     · try (exfalso; first | (simp at hb3_1; done) | (simp only [decide_eq_true_eq, decide_eq_false_iff_not, Bool.not_eq_true', Bool.not_eq_false', Bool.not_eq_true, Bool.not_eq_false] at hb3_1; omega) | omega)
       all_goals
        try simp only [decide_eq_true_eq, decide_eq_false_iff_not, Bool.not_eq_true', Bool.not_eq_false', Bool.not_eq_true, Bool.not_eq_false, Option.isNone_none, Option.isNone_some, Option.isSome_none, Option.isSome_some, ne_eq, Decidable.not_not] at hb3_1
        refine WN.heldSkip _ rfl rfl rfl rfl hS3 ?_
        refine WN.heldSkip _ rfl rfl rfl rfl hS3 ?_
        refine WN.step _ rfl (SO.skip rfl rfl rfl ?_)
        refine ⟨hS3, ?_⟩
        refine WN.step _ rfl (SO.skip rfl rfl rfl ?_)
        refine ⟨trivial, ?_⟩
        refine WN.skip _ rfl rfl rfl rfl ?_
        refine WN.calm _ rfl rfl rfl rfl rfl (fun _ => r_pickF rfl (ev_t rfl) ev_c) ?_
        refine WN.calm _ rfl rfl rfl rfl rfl (fun _ => r_assign rfl (ev_t rfl)) ?_
        refine WN.done ?_
        refine WX.keep [(2, _)] ⟨rfl, trivial⟩ ?_
        refine WX.next ?_
        refine WC.ret ?_
        refine WX.retE1 rfl rfl ?_
        exact ⟨by simp, hU⟩
end Go.Proofs.YtomkdhkkggbioaaGreatDoor
