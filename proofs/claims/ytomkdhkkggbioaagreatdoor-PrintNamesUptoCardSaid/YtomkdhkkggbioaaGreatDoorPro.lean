/-
  Law 05: PrintNames.
-/
import Derived.Test.YtomkdhkkggbioaaGreatDoorPrn
namespace Go.Proofs.YtomkdhkkggbioaaGreatDoor
open Go
set_option linter.unusedSimpArgs false
set_option linter.unusedVariables false

theorem printNames.walk {w : World} {F G : Nat → Prop} {x0 x1 x2 y0 y1 y2 : Value} {t u : Tr} (ht : TR w F [x0, x1, x2] t) (gt : TR w G [y0, y1, y2] u) (hP : Pow10 w) : Ret Tryz.prog 7 #[.agg #[x0, x1, x2], .agg #[y0, y1, y2]] w fun v w' => v = .bool true ∧ Upd No w w' := by
  have ho := ht.one
  have go := gt.one
  refine enterRet (vs := [_, _]) (N := 36) Tryz.func7 rfl rfl rfl ?_
  have hU := Upd.refl No w
  refine WC.keep [(0, _), (1, _)] ⟨rfl, rfl, trivial⟩ ?_
  refine WC.seq ?_
  refine WC.region ?_
  refine WL.cons (SO.alloc rfl rfl rfl rfl (r_boxAgg rfl (ev_t rfl)) ?_)
  intro w1 hu1 hB1 hz1
  have hs1 := hu1.size
  replace hU := hU.transA hu1
  refine WL.cons (SO.alloc rfl rfl rfl rfl (r_boxAgg rfl (ev_t rfl)) ?_)
  intro w2 hu2 hB2 hz2
  have hs2 := hu2.size
  replace hU := hU.transA hu2
  replace hB1 := hB1.updA hu2
  refine WL.val rfl rfl rfl rfl (r_assign rfl ev_c) ?_
  refine WL.nil ?_
  refine WX.keep [(2, _), (3, _)] ⟨rfl, rfl, trivial⟩ ?_
  have hb := hB1
  have gb := hB2
  change Blk _ _ #[x0, x1, x2] _ at hb
  change Blk _ _ #[y0, y1, y2] _ at gb
  refine WX.next ?_
  refine WC.seq ?_
  refine WC.seq ?_
  refine WC.region ?_
  refine WL.val rfl rfl rfl rfl (r_loadAgg (vs := [_, _, _]) rfl (ev_t rfl) agg_24 size_24 (Blk.cellsL hb)) ?_
  refine WL.cons (SO.call (small_ok 9 _ 0 [x0, x1, x2] t rfl (ht.upd hU)) rfl body_11 ⟨(ev_t rfl), ev_c, trivial⟩ rfl rfl rfl rfl ?_)
  rintro v9 w3 ⟨rfl, hu3⟩
  have hs3 := hu3.size
  replace hU := hU.transA hu3
  replace hb := hb.upd hu3 (fun h => h)
  replace gb := gb.upd hu3 (fun h => h)
  refine WL.val rfl rfl rfl rfl (r_not rfl (ev_t rfl)) ?_
  refine WL.val rfl rfl rfl rfl (r_move rfl (ev_t rfl)) ?_
  refine WL.cases 8 rfl (fun hb1_3 => ?_) (fun hb1_3 => ?_)
  · try (exfalso; first | (simp at hb1_3; done) | (simp only [decide_eq_true_eq, decide_eq_false_iff_not, Bool.not_eq_true', Bool.not_eq_false', Bool.not_eq_true, Bool.not_eq_false] at hb1_3; omega) | omega)
    all_goals
     try simp only [decide_eq_true_eq, decide_eq_false_iff_not, Bool.not_eq_true', Bool.not_eq_false', Bool.not_eq_true, Bool.not_eq_false, Option.isNone_none, Option.isNone_some, Option.isSome_none, Option.isSome_some, ne_eq, Decidable.not_not] at hb1_3
     refine WL.skip rfl rfl rfl ?_
     refine WL.skip rfl rfl rfl ?_
     refine WL.skip rfl rfl rfl ?_
     refine WL.val rfl rfl rfl rfl (r_pickT rfl (ev_t rfl) ev_c) ?_
     refine WL.val rfl rfl rfl rfl (r_move rfl (ev_t rfl)) ?_
     refine WL.skip rfl rfl rfl ?_
     refine WL.skip rfl rfl rfl ?_
     refine WL.skip rfl rfl rfl ?_
     refine WL.val rfl rfl rfl rfl (r_pickT rfl (ev_t rfl) ev_c) ?_
     refine WL.val rfl rfl rfl rfl (r_move rfl (ev_t rfl)) ?_
     refine WL.skip rfl rfl rfl ?_
     refine WL.skip rfl rfl rfl ?_
     refine WL.skip rfl rfl rfl ?_
     refine WL.val rfl rfl rfl rfl (r_pickT rfl (ev_t rfl) ev_c) ?_
     refine WL.nil ?_
     refine WX.keep [(2, _), (3, _), (22, _)] ⟨rfl, rfl, rfl, trivial⟩ ?_
     refine WX.next ?_
     refine WC.cond_true rfl (ev_t rfl) ?_
     refine WC.seq ?_
     refine WC.region ?_
     refine WL.cons (SO.call (awake05_ok _ (hP.upd hU (fun k _ h => h))) rfl body_12 trivial rfl rfl rfl rfl ?_)
     rintro v9 w4 ⟨rfl, hu4⟩
     have hs4 := hu4.size
     replace hU := hU.transA hu4
     replace hb := hb.upd hu4 (fun h => h)
     replace gb := gb.upd hu4 (fun h => h)
     refine WL.val rfl rfl rfl rfl (r_assign rfl (ev_t rfl)) ?_
     refine WL.nil ?_
     refine WX.keep [(4, _)] ⟨rfl, trivial⟩ ?_
     refine WX.next ?_
     refine WC.ret ?_
     refine WX.thenRet ?_
     refine WX.retE1 rfl rfl ?_
     exact ⟨rfl, hU⟩
  · try (exfalso; first | (simp at hb1_3; done) | (simp only [decide_eq_true_eq, decide_eq_false_iff_not, Bool.not_eq_true', Bool.not_eq_false', Bool.not_eq_true, Bool.not_eq_false] at hb1_3; omega) | omega)
    all_goals
     try simp only [decide_eq_true_eq, decide_eq_false_iff_not, Bool.not_eq_true', Bool.not_eq_false', Bool.not_eq_true, Bool.not_eq_false, Option.isNone_none, Option.isNone_some, Option.isSome_none, Option.isSome_some, ne_eq, Decidable.not_not] at hb1_3
     refine WL.val rfl rfl rfl rfl (r_loadAgg (vs := [_, _, _]) rfl (ev_t rfl) agg_24 size_24 (Blk.cellsL gb)) ?_
     refine WL.cons (SO.call (small_ok 9 _ 0 [y0, y1, y2] u rfl (gt.upd hU)) rfl body_11 ⟨(ev_t rfl), ev_c, trivial⟩ rfl rfl rfl rfl ?_)
     rintro v9 w5 ⟨rfl, hu5⟩
     have hs5 := hu5.size
     replace hU := hU.transA hu5
     replace hb := hb.upd hu5 (fun h => h)
     replace gb := gb.upd hu5 (fun h => h)
     refine WL.val rfl rfl rfl rfl (r_not rfl (ev_t rfl)) ?_
     refine WL.val rfl rfl rfl rfl (r_pickF rfl (ev_t rfl) (ev_t rfl)) ?_
     refine WL.val rfl rfl rfl rfl (r_move rfl (ev_t rfl)) ?_
     refine WL.cases 13 rfl (fun hb1_8 => ?_) (fun hb1_8 => ?_)
     · try (exfalso; first | (simp at hb1_8; done) | (simp only [decide_eq_true_eq, decide_eq_false_iff_not, Bool.not_eq_true', Bool.not_eq_false', Bool.not_eq_true, Bool.not_eq_false] at hb1_8; omega) | omega)
       all_goals
        try simp only [decide_eq_true_eq, decide_eq_false_iff_not, Bool.not_eq_true', Bool.not_eq_false', Bool.not_eq_true, Bool.not_eq_false, Option.isNone_none, Option.isNone_some, Option.isSome_none, Option.isSome_some, ne_eq, Decidable.not_not] at hb1_8
        refine WL.skip rfl rfl rfl ?_
        refine WL.skip rfl rfl rfl ?_
        refine WL.skip rfl rfl rfl ?_
        refine WL.val rfl rfl rfl rfl (r_pickT rfl (ev_t rfl) ev_c) ?_
        refine WL.val rfl rfl rfl rfl (r_move rfl (ev_t rfl)) ?_
        refine WL.skip rfl rfl rfl ?_
        refine WL.skip rfl rfl rfl ?_
        refine WL.skip rfl rfl rfl ?_
        refine WL.val rfl rfl rfl rfl (r_pickT rfl (ev_t rfl) ev_c) ?_
        refine WL.nil ?_
        refine WX.keep [(2, _), (3, _), (22, _)] ⟨rfl, rfl, rfl, trivial⟩ ?_
        refine WX.next ?_
        refine WC.cond_true rfl (ev_t rfl) ?_
        refine WC.seq ?_
        refine WC.region ?_
        refine WL.cons (SO.call (awake05_ok _ (hP.upd hU (fun k _ h => h))) rfl body_12 trivial rfl rfl rfl rfl ?_)
        rintro v9 w6 ⟨rfl, hu6⟩
        have hs6 := hu6.size
        replace hU := hU.transA hu6
        replace hb := hb.upd hu6 (fun h => h)
        replace gb := gb.upd hu6 (fun h => h)
        refine WL.val rfl rfl rfl rfl (r_assign rfl (ev_t rfl)) ?_
        refine WL.nil ?_
        refine WX.keep [(4, _)] ⟨rfl, trivial⟩ ?_
        refine WX.next ?_
        refine WC.ret ?_
        refine WX.thenRet ?_
        refine WX.retE1 rfl rfl ?_
        exact ⟨rfl, hU⟩
     · try (exfalso; first | (simp at hb1_8; done) | (simp only [decide_eq_true_eq, decide_eq_false_iff_not, Bool.not_eq_true', Bool.not_eq_false', Bool.not_eq_true, Bool.not_eq_false] at hb1_8; omega) | omega)
       all_goals
        try simp only [decide_eq_true_eq, decide_eq_false_iff_not, Bool.not_eq_true', Bool.not_eq_false', Bool.not_eq_true, Bool.not_eq_false, Option.isNone_none, Option.isNone_some, Option.isSome_none, Option.isSome_some, ne_eq, Decidable.not_not] at hb1_8
        refine WL.val rfl rfl rfl rfl (r_loadAgg (vs := [_, _, _]) rfl (ev_t rfl) agg_24 size_24 (Blk.cellsL hb)) ?_
        refine WL.cons (SO.call (named_ok 9 _ [x0, x1, x2] t (by simpa using hb1_3) (ht.upd hU)) rfl body_21 ⟨(ev_t rfl), trivial⟩ rfl rfl rfl rfl ?_)
        rintro v9 w7 ⟨rfl, hu7⟩
        have hs7 := hu7.size
        replace hU := hU.transA hu7
        replace hb := hb.upd hu7 (fun h => h)
        replace gb := gb.upd hu7 (fun h => h)
        refine WL.val rfl rfl rfl rfl (r_not rfl (ev_t rfl)) ?_
        refine WL.val rfl rfl rfl rfl (r_pickF rfl (ev_t rfl) (ev_t rfl)) ?_
        refine WL.val rfl rfl rfl rfl (r_move rfl (ev_t rfl)) ?_
        refine WL.cases 18 rfl (fun hb1_13 => ?_) (fun hb1_13 => ?_)
        · try (exfalso; first | (simp at hb1_13; done) | (simp only [decide_eq_true_eq, decide_eq_false_iff_not, Bool.not_eq_true', Bool.not_eq_false', Bool.not_eq_true, Bool.not_eq_false] at hb1_13; omega) | omega)
          all_goals
           try simp only [decide_eq_true_eq, decide_eq_false_iff_not, Bool.not_eq_true', Bool.not_eq_false', Bool.not_eq_true, Bool.not_eq_false, Option.isNone_none, Option.isNone_some, Option.isSome_none, Option.isSome_some, ne_eq, Decidable.not_not] at hb1_13
           refine WL.skip rfl rfl rfl ?_
           refine WL.skip rfl rfl rfl ?_
           refine WL.skip rfl rfl rfl ?_
           refine WL.val rfl rfl rfl rfl (r_pickT rfl (ev_t rfl) ev_c) ?_
           refine WL.nil ?_
           refine WX.keep [(2, _), (3, _), (22, _)] ⟨rfl, rfl, rfl, trivial⟩ ?_
           refine WX.next ?_
           refine WC.cond_true rfl (ev_t rfl) ?_
           refine WC.seq ?_
           refine WC.region ?_
           refine WL.cons (SO.call (awake05_ok _ (hP.upd hU (fun k _ h => h))) rfl body_12 trivial rfl rfl rfl rfl ?_)
           rintro v9 w8 ⟨rfl, hu8⟩
           have hs8 := hu8.size
           replace hU := hU.transA hu8
           replace hb := hb.upd hu8 (fun h => h)
           replace gb := gb.upd hu8 (fun h => h)
           refine WL.val rfl rfl rfl rfl (r_assign rfl (ev_t rfl)) ?_
           refine WL.nil ?_
           refine WX.keep [(4, _)] ⟨rfl, trivial⟩ ?_
           refine WX.next ?_
           refine WC.ret ?_
           refine WX.thenRet ?_
           refine WX.retE1 rfl rfl ?_
           exact ⟨rfl, hU⟩
        · try (exfalso; first | (simp at hb1_13; done) | (simp only [decide_eq_true_eq, decide_eq_false_iff_not, Bool.not_eq_true', Bool.not_eq_false', Bool.not_eq_true, Bool.not_eq_false] at hb1_13; omega) | omega)
          all_goals
           try simp only [decide_eq_true_eq, decide_eq_false_iff_not, Bool.not_eq_true', Bool.not_eq_false', Bool.not_eq_true, Bool.not_eq_false, Option.isNone_none, Option.isNone_some, Option.isSome_none, Option.isSome_some, ne_eq, Decidable.not_not] at hb1_13
           refine WL.val rfl rfl rfl rfl (r_loadAgg (vs := [_, _, _]) rfl (ev_t rfl) agg_24 size_24 (Blk.cellsL gb)) ?_
           refine WL.cons (SO.call (named_ok 9 _ [y0, y1, y2] u (by simpa using hb1_8) (gt.upd hU)) rfl body_21 ⟨(ev_t rfl), trivial⟩ rfl rfl rfl rfl ?_)
           rintro v9 w9 ⟨rfl, hu9⟩
           have hs9 := hu9.size
           replace hU := hU.transA hu9
           replace hb := hb.upd hu9 (fun h => h)
           replace gb := gb.upd hu9 (fun h => h)
           refine WL.val rfl rfl rfl rfl (r_not rfl (ev_t rfl)) ?_
           refine WL.val rfl rfl rfl rfl (r_pickF rfl (ev_t rfl) (ev_t rfl)) ?_
           refine WL.nil ?_
           refine WX.keep [(2, _), (3, _), (22, _)] ⟨rfl, rfl, rfl, trivial⟩ ?_
           refine WX.next ?_
           refine WC.cond rfl (ev_t rfl) (fun hc1 => ?_) (fun hc1 => ?_)
           · try (exfalso; first | (simp at hc1; done) | (simp only [decide_eq_true_eq, decide_eq_false_iff_not, Bool.not_eq_true', Bool.not_eq_false', Bool.not_eq_true, Bool.not_eq_false] at hc1; omega) | omega)
             all_goals
              try simp only [decide_eq_true_eq, decide_eq_false_iff_not, Bool.not_eq_true', Bool.not_eq_false', Bool.not_eq_true, Bool.not_eq_false, Option.isNone_none, Option.isNone_some, Option.isSome_none, Option.isSome_some, ne_eq, Decidable.not_not] at hc1
              refine WC.seq ?_
              refine WC.region ?_
              refine WL.cons (SO.call (awake05_ok _ (hP.upd hU (fun k _ h => h))) rfl body_12 trivial rfl rfl rfl rfl ?_)
              rintro v9 w10 ⟨rfl, hu10⟩
              have hs10 := hu10.size
              replace hU := hU.transA hu10
              replace hb := hb.upd hu10 (fun h => h)
              replace gb := gb.upd hu10 (fun h => h)
              refine WL.val rfl rfl rfl rfl (r_assign rfl (ev_t rfl)) ?_
              refine WL.nil ?_
              refine WX.keep [(4, _)] ⟨rfl, trivial⟩ ?_
              refine WX.next ?_
              refine WC.ret ?_
              refine WX.thenRet ?_
              refine WX.retE1 rfl rfl ?_
              exact ⟨rfl, hU⟩
           · try (exfalso; first | (simp at hc1; done) | (simp only [decide_eq_true_eq, decide_eq_false_iff_not, Bool.not_eq_true', Bool.not_eq_false', Bool.not_eq_true, Bool.not_eq_false] at hc1; omega) | omega)
             all_goals
              try simp only [decide_eq_true_eq, decide_eq_false_iff_not, Bool.not_eq_true', Bool.not_eq_false', Bool.not_eq_true, Bool.not_eq_false, Option.isNone_none, Option.isNone_some, Option.isSome_none, Option.isSome_some, ne_eq, Decidable.not_not] at hc1
              refine WC.skip ?_
              refine WX.next ?_
              refine WC.seq ?_
              have hsm : smallF 9 t = true := by simpa using hb1_3
              have gsm : smallF 9 u = true := by simpa using hb1_8
              have hnm : namedF 9 t = true := by simpa using hb1_13
              have gnm : namedF 9 u = true := by simpa using hc1
              refine WC.draws' (fun u0_ u1_ => Upd No u0_ u1_) (fun j => [1, 0, 0, 1, 0, 1, 0, 0, 0, 2, 0, 0, 0].getD j 0) (.one 0 (.calm 1 (.held 2 (.held 4 (.held 7 (.held 8 (.one 3 (.one 5 (.calm 6 (.one 9 (.calm 10 (.calm 11 (.calm 12 (.done)))))))))))))) mixed (by kernel_rfl) (by repeat (first | with_reducible exact Deaf.body | with_reducible apply Deaf.then | with_reducible apply Deaf.block)) ?_
              intro w11 hu11
              have hz11 := congrArg Array.size hu11.2.2.2
              replace hu11 := Upd.of_draw hu11
              have hs11 := hu11.size
              replace hU := hU.transA hu11
              replace hb := hb.upd hu11 (fun h => h)
              replace gb := gb.upd hu11 (fun h => h)
              have hS3 := Upd.refl No w11
              have hb0 := hb
              have gb0 := gb
              refine WN.step _ rfl (SO.call (awake05_ok _ (hP.upd hU (fun k _ h => h))) rfl body_12 trivial rfl rfl rfl rfl ?_)
              rintro v9 w12 ⟨rfl, hu12⟩
              have hs12 := hu12.size
              replace hS3 := Upd.transA hS3 hu12
              replace hU := hU.transA hu12
              replace hb := hb.upd hu12 (fun h => h)
              replace gb := gb.upd hu12 (fun h => h)
              refine ⟨hS3, ?_⟩
              refine WN.calm _ rfl rfl rfl rfl rfl (fun _ => r_move rfl (ev_t rfl)) ?_
              refine WN.cases 25 rfl (fun hb3_1 => ?_) (fun hb3_1 => ?_)
              · try (exfalso; first | (simp at hb3_1; done) | (simp only [decide_eq_true_eq, decide_eq_false_iff_not, Bool.not_eq_true', Bool.not_eq_false', Bool.not_eq_true, Bool.not_eq_false] at hb3_1; omega) | omega)
                all_goals
                 try simp only [decide_eq_true_eq, decide_eq_false_iff_not, Bool.not_eq_true', Bool.not_eq_false', Bool.not_eq_true, Bool.not_eq_false, Option.isNone_none, Option.isNone_some, Option.isSome_none, Option.isSome_some, ne_eq, Decidable.not_not] at hb3_1
                 refine WN.held _ rfl rfl rfl rfl rfl hS3 (fun w' hS => r_loadAgg (vs := [_, _, _]) rfl (ev_t rfl) agg_24 size_24 (Blk.cellsL (hb0.upd hS (fun h => h)))) ?_
                 refine WN.held _ rfl rfl rfl rfl rfl hS3 (fun w' hS => r_loadAgg (vs := [_, _, _]) rfl (ev_t rfl) agg_24 size_24 (Blk.cellsL (gb0.upd hS (fun h => h)))) ?_
                 refine WN.held _ rfl rfl rfl rfl rfl hS3 (fun w' hS => r_loadAgg (vs := [_, _, _]) rfl (ev_t rfl) agg_24 size_24 (Blk.cellsL (hb0.upd hS (fun h => h)))) ?_
                 refine WN.held _ rfl rfl rfl rfl rfl hS3 (fun w' hS => r_loadAgg (vs := [_, _, _]) rfl (ev_t rfl) agg_24 size_24 (Blk.cellsL (gb0.upd hS (fun h => h)))) ?_
                 refine WN.step _ rfl (SO.call (Type_ok (TPr.all 9 t _ _ (by omega) hsm (ht.upd hU) (hP.upd hU (fun k _ h => h)) 0) ho) rfl body_13 ⟨(ev_t rfl), trivial⟩ rfl rfl rfl rfl ?_)
                 rintro v9 w13 ⟨rfl, hu13⟩
                 have hs13 := hu13.size
                 replace hS3 := Upd.transA hS3 hu13
                 replace hU := hU.transA hu13
                 replace hb := hb.upd hu13 (fun h => h)
                 replace gb := gb.upd hu13 (fun h => h)
                 refine ⟨hS3, ?_⟩
                 refine WN.step _ rfl (SO.call (Type_ok (TPr.all 9 u _ _ (by omega) gsm (gt.upd hU) (hP.upd hU (fun k _ h => h)) 0) go) rfl body_13 ⟨(ev_t rfl), trivial⟩ rfl rfl rfl rfl ?_)
                 rintro v9 w14 ⟨rfl, hu14⟩
                 have hs14 := hu14.size
                 replace hS3 := Upd.transA hS3 hu14
                 replace hU := hU.transA hu14
                 replace hb := hb.upd hu14 (fun h => h)
                 replace gb := gb.upd hu14 (fun h => h)
                 refine ⟨hS3, ?_⟩
                 refine WN.calm _ rfl rfl rfl rfl rfl (fun _ => r_eqlStrL (s := typS 9 t 0) (s' := typS 9 u 0) rfl (ev_t rfl) (ev_t rfl)) ?_
                 refine WN.step _ rfl (SO.call (sameT_ok 9 _ [x0, x1, x2] [y0, y1, y2] t u hsm gsm (ht.upd hU) (gt.upd hU)) rfl body_16 ⟨(ev_t rfl), (ev_t rfl), trivial⟩ rfl rfl rfl rfl ?_)
                 rintro v9 w15 ⟨rfl, hu15⟩
                 have hs15 := hu15.size
                 try replace hS3 := Upd.transA hS3 hu15
                 replace hU := hU.transA hu15
                 replace hb := hb.upd hu15 (fun h => h)
                 replace gb := gb.upd hu15 (fun h => h)
                 refine ⟨trivial, ?_⟩
                 refine WN.calm _ rfl rfl rfl rfl rfl (fun _ => r_eqlBool rfl (ev_t rfl) (ev_t rfl) bool_4) ?_
                 refine WN.calm _ rfl rfl rfl rfl rfl (fun _ => r_pickT rfl (ev_t rfl) (ev_t rfl)) ?_
                 refine WN.calm _ rfl rfl rfl rfl rfl (fun _ => r_assign rfl (ev_t rfl)) ?_
                 refine WN.done ?_
                 refine WX.keep [(4, _)] ⟨rfl, trivial⟩ ?_
                 refine WX.next ?_
                 refine WC.ret ?_
                 refine WX.retE1 rfl rfl ?_
                 refine ⟨?_, hU⟩
                 have h9 := typS_inj hsm gsm hnm gnm
                 have h8 := sameF_iff 9 t u hsm gsm
                 by_cases h7 : t = u
                 · have e1 := h9.2 h7
                   have e2 := h8.2 h7
                   simp [e1, e2]
                 · have e1 : ¬ typS 9 t 0 = typS 9 u 0 := fun h => h7 (h9.1 h)
                   have e2 : sameF 9 t u = false := by rw [← Bool.not_eq_true]; exact fun h => h7 (h8.1 h)
                   simp [e1, e2]
              · try (exfalso; first | (simp at hb3_1; done) | (simp only [decide_eq_true_eq, decide_eq_false_iff_not, Bool.not_eq_true', Bool.not_eq_false', Bool.not_eq_true, Bool.not_eq_false] at hb3_1; omega) | omega)
                all_goals
                 try simp only [decide_eq_true_eq, decide_eq_false_iff_not, Bool.not_eq_true', Bool.not_eq_false', Bool.not_eq_true, Bool.not_eq_false, Option.isNone_none, Option.isNone_some, Option.isSome_none, Option.isSome_some, ne_eq, Decidable.not_not] at hb3_1
                 refine WN.heldSkip _ rfl rfl rfl rfl hS3 ?_
                 refine WN.heldSkip _ rfl rfl rfl rfl hS3 ?_
                 refine WN.heldSkip _ rfl rfl rfl rfl hS3 ?_
                 refine WN.heldSkip _ rfl rfl rfl rfl hS3 ?_
                 refine WN.step _ rfl (SO.skip rfl rfl rfl ?_)
                 refine ⟨hS3, ?_⟩
                 refine WN.step _ rfl (SO.skip rfl rfl rfl ?_)
                 refine ⟨hS3, ?_⟩
                 refine WN.skip _ rfl rfl rfl rfl ?_
                 refine WN.step _ rfl (SO.skip rfl rfl rfl ?_)
                 refine ⟨trivial, ?_⟩
                 refine WN.skip _ rfl rfl rfl rfl ?_
                 refine WN.calm _ rfl rfl rfl rfl rfl (fun _ => r_pickF rfl (ev_t rfl) ev_c) ?_
                 refine WN.calm _ rfl rfl rfl rfl rfl (fun _ => r_assign rfl (ev_t rfl)) ?_
                 refine WN.done ?_
                 refine WX.keep [(4, _)] ⟨rfl, trivial⟩ ?_
                 refine WX.next ?_
                 refine WC.ret ?_
                 refine WX.retE1 rfl rfl ?_
                 refine ⟨?_, hU⟩
                 have h9 := typS_inj hsm gsm hnm gnm
                 have h8 := sameF_iff 9 t u hsm gsm
                 by_cases h7 : t = u
                 · have e1 := h9.2 h7
                   have e2 := h8.2 h7
                   simp [e1, e2]
                 · have e1 : ¬ typS 9 t 0 = typS 9 u 0 := fun h => h7 (h9.1 h)
                   have e2 : sameF 9 t u = false := by rw [← Bool.not_eq_true]; exact fun h => h7 (h8.1 h)
                   simp [e1, e2]
end Go.Proofs.YtomkdhkkggbioaaGreatDoor
