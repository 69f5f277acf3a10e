/-
  The reference's check: what an instruction takes and leaves; is it fine?
-/
import Derived.Test.YtipabhbnljadfaaDoorCoR
import Derived.Test.YtipabhbnljadfaaDoorCoe
namespace Go.Proofs.YtipabhbnljadfaaDoor
open Go
set_option linter.unusedSimpArgs false
set_option linter.unusedVariables false

set_option maxHeartbeats 2000000 in
theorem takes_ok {w : World} {i : In} (hi : i.ok) : Ret Tryd.prog 39 #[.agg (insC i).toArray] w fun u w' => u = .int .i64 (takesR i) ∧ Upd No w w' := by
  obtain ⟨h1, h2, h3, h4⟩ := hi
  simp only [inK] at h2 h3
  obtain ⟨op, In_, Ia, Is⟩ := i
  simp only at h1 h2 h3 h4
  unfold insC takesR
  simp only
  refine enterRet (vs := [_]) (N := 79) Tryd.func39 rfl rfl rfl ?_
  have hU := Upd.refl No w
  refine WC.keep [(0, _)] ⟨rfl, trivial⟩ ?_
  refine WC.seq ?_
  refine WC.region ?_
  refine WL.cons (SO.alloc rfl rfl rfl rfl (r_boxAgg rfl (ev_t rfl)) ?_)
  intro w1 hu1 hB1 hz1
  have hs1 := hu1.size
  replace hU := hU.transA hu1
  refine WL.val rfl rfl rfl rfl (r_assign rfl ev_c) ?_
  refine WL.nil ?_
  refine WX.keep [(1, _)] ⟨rfl, trivial⟩ ?_
  refine WX.next ?_
  refine WC.seq ?_
  refine WC.seq ?_
  refine WC.region ?_
  first | refine WL.val rfl rfl rfl rfl (r_field0 rfl (ev_t rfl) fld_55_0) ?_ | refine WL.val rfl rfl rfl rfl (r_fieldAt rfl (ev_t rfl) fld_55_0) ?_
  refine WL.val rfl rfl rfl rfl (r_load rfl (ev_t rfl) flat_5 (Blk.cell hB1 rfl)) ?_
  refine WL.nil ?_
  refine WX.keep [(1, _), (4, _)] ⟨rfl, rfl, trivial⟩ ?_
  refine WX.next ?_
  refine WC.block ?_
  refine WC.seq ?_
  refine WC.region ?_
  refine WL.val rfl rfl rfl rfl (r_eql rfl (ev_t rfl) ev_c) ?_
  refine WL.val rfl rfl rfl rfl (r_assign rfl (ev_t rfl)) ?_
  refine WL.nil ?_
  refine WX.keep [(1, _), (4, _), (5, _)] ⟨rfl, rfl, rfl, trivial⟩ ?_
  refine WX.next ?_
  refine WC.condT rfl (fun hc2 => ?_) (fun hc2 => ?_)
  · try (exfalso; first | (simp at hc2; done) | (simp only [decide_eq_true_eq, decide_eq_false_iff_not, Bool.not_eq_true', Bool.not_eq_false', Bool.not_eq_true, Bool.not_eq_false] at hc2; omega) | omega)
    all_goals
     try simp only [decide_eq_true_eq, decide_eq_false_iff_not, Bool.not_eq_true', Bool.not_eq_false', Bool.not_eq_true, Bool.not_eq_false, Option.isNone_none, Option.isNone_some, Option.isSome_none, Option.isSome_some, ne_eq, Decidable.not_not] at hc2
     refine WC.seq ?_
     refine WC.region ?_
     first | refine WL.val rfl rfl rfl rfl (r_field0 rfl (ev_t rfl) fld_55_2) ?_ | refine WL.val rfl rfl rfl rfl (r_fieldAt rfl (ev_t rfl) fld_55_2) ?_
     refine WL.val rfl rfl rfl rfl (r_load rfl (ev_t rfl) flat_3 (Blk.cell hB1 rfl)) ?_
     refine WL.val rfl rfl rfl rfl (r_assign rfl (ev_t rfl)) ?_
     refine WL.nil ?_
     refine WX.keep [(2, _)] ⟨rfl, trivial⟩ ?_
     refine WX.next ?_
     refine WC.ret ?_
     refine WX.blockRet ?_
     refine WX.thenRet ?_
     refine WX.retE1 rfl rfl ?_
     simp (disch := omega) only [if_pos, if_neg]
     first | exact ⟨trivial, hU⟩ | exact ⟨rfl, hU⟩
  · try (exfalso; first | (simp at hc2; done) | (simp only [decide_eq_true_eq, decide_eq_false_iff_not, Bool.not_eq_true', Bool.not_eq_false', Bool.not_eq_true, Bool.not_eq_false] at hc2; omega) | omega)
    all_goals
     try simp only [decide_eq_true_eq, decide_eq_false_iff_not, Bool.not_eq_true', Bool.not_eq_false', Bool.not_eq_true, Bool.not_eq_false, Option.isNone_none, Option.isNone_some, Option.isSome_none, Option.isSome_some, ne_eq, Decidable.not_not] at hc2
     refine WC.seq ?_
     refine WC.region ?_
     refine WL.val rfl rfl rfl rfl (r_eql rfl (ev_t rfl) ev_c) ?_
     refine WL.val rfl rfl rfl rfl (r_assign rfl (ev_t rfl)) ?_
     refine WL.nil ?_
     refine WX.keep [(1, _), (4, _), (9, _)] ⟨rfl, rfl, rfl, trivial⟩ ?_
     refine WX.next ?_
     refine WC.condT rfl (fun hc4 => ?_) (fun hc4 => ?_)
     · try (exfalso; first | (simp at hc4; done) | (simp only [decide_eq_true_eq, decide_eq_false_iff_not, Bool.not_eq_true', Bool.not_eq_false', Bool.not_eq_true, Bool.not_eq_false] at hc4; omega) | omega)
       all_goals
        try simp only [decide_eq_true_eq, decide_eq_false_iff_not, Bool.not_eq_true', Bool.not_eq_false', Bool.not_eq_true, Bool.not_eq_false, Option.isNone_none, Option.isNone_some, Option.isSome_none, Option.isSome_some, ne_eq, Decidable.not_not] at hc4
        refine WC.seq ?_
        refine WC.seq ?_
        refine WC.region ?_
        first | refine WL.val rfl rfl rfl rfl (r_field0 rfl (ev_t rfl) fld_55_1) ?_ | refine WL.val rfl rfl rfl rfl (r_fieldAt rfl (ev_t rfl) fld_55_1) ?_
        refine WL.val rfl rfl rfl rfl (r_load rfl (ev_t rfl) flat_2 (Blk.cell hB1 rfl)) ?_
        refine WL.val rfl rfl rfl rfl (r_lss rfl (ev_t rfl) ev_c) ?_
        refine WL.val rfl rfl rfl rfl (r_move rfl (ev_t rfl)) ?_
        refine WL.cases 14 rfl (fun hb5_3 => ?_) (fun hb5_3 => ?_)
        · try (exfalso; first | (simp at hb5_3; done) | (simp only [decide_eq_true_eq, decide_eq_false_iff_not, Bool.not_eq_true', Bool.not_eq_false', Bool.not_eq_true, Bool.not_eq_false] at hb5_3; omega) | omega)
          all_goals
           try simp only [decide_eq_true_eq, decide_eq_false_iff_not, Bool.not_eq_true', Bool.not_eq_false', Bool.not_eq_true, Bool.not_eq_false, Option.isNone_none, Option.isNone_some, Option.isSome_none, Option.isSome_some, ne_eq, Decidable.not_not] at hb5_3
           refine WL.skip rfl rfl rfl ?_
           refine WL.skip rfl rfl rfl ?_
           refine WL.skip rfl rfl rfl ?_
           refine WL.val rfl rfl rfl rfl (r_pickT rfl (ev_t rfl) ev_c) ?_
           refine WL.nil ?_
           refine WX.keep [(1, _), (18, _)] ⟨rfl, rfl, trivial⟩ ?_
           refine WX.next ?_
           refine WC.cond_true rfl (ev_t rfl) ?_
           refine WC.seq ?_
           refine WC.region ?_
           refine WL.val rfl rfl rfl rfl (r_assign rfl ev_c) ?_
           refine WL.nil ?_
           refine WX.keep [(2, _)] ⟨rfl, trivial⟩ ?_
           refine WX.next ?_
           refine WC.ret ?_
           refine WX.thenRet ?_
           refine WX.blockRet ?_
           refine WX.thenRet ?_
           refine WX.retE1 rfl rfl ?_
           simp (disch := omega) only [if_pos, if_neg]
           first | exact ⟨trivial, hU⟩ | exact ⟨rfl, hU⟩
        · try (exfalso; first | (simp at hb5_3; done) | (simp only [decide_eq_true_eq, decide_eq_false_iff_not, Bool.not_eq_true', Bool.not_eq_false', Bool.not_eq_true, Bool.not_eq_false] at hb5_3; omega) | omega)
          all_goals
           try simp only [decide_eq_true_eq, decide_eq_false_iff_not, Bool.not_eq_true', Bool.not_eq_false', Bool.not_eq_true, Bool.not_eq_false, Option.isNone_none, Option.isNone_some, Option.isSome_none, Option.isSome_some, ne_eq, Decidable.not_not] at hb5_3
           first | refine WL.val rfl rfl rfl rfl (r_field0 rfl (ev_t rfl) fld_55_1) ?_ | refine WL.val rfl rfl rfl rfl (r_fieldAt rfl (ev_t rfl) fld_55_1) ?_
           refine WL.val rfl rfl rfl rfl (r_load rfl (ev_t rfl) flat_2 (Blk.cell hB1 rfl)) ?_
           refine WL.val rfl rfl rfl rfl (r_gtr rfl (ev_t rfl) ev_c) ?_
           refine WL.val rfl rfl rfl rfl (r_pickF rfl (ev_t rfl) (ev_t rfl)) ?_
           refine WL.nil ?_
           refine WX.keep [(1, _), (18, _)] ⟨rfl, rfl, trivial⟩ ?_
           refine WX.next ?_
           refine WC.condT rfl (fun hc5 => ?_) (fun hc5 => ?_)
           · try (exfalso; first | (simp at hc5; done) | (simp only [decide_eq_true_eq, decide_eq_false_iff_not, Bool.not_eq_true', Bool.not_eq_false', Bool.not_eq_true, Bool.not_eq_false] at hc5; omega) | omega)
             all_goals
              try simp only [decide_eq_true_eq, decide_eq_false_iff_not, Bool.not_eq_true', Bool.not_eq_false', Bool.not_eq_true, Bool.not_eq_false, Option.isNone_none, Option.isNone_some, Option.isSome_none, Option.isSome_some, ne_eq, Decidable.not_not] at hc5
              refine WC.seq ?_
              refine WC.region ?_
              refine WL.val rfl rfl rfl rfl (r_assign rfl ev_c) ?_
              refine WL.nil ?_
              refine WX.keep [(2, _)] ⟨rfl, trivial⟩ ?_
              refine WX.next ?_
              refine WC.ret ?_
              refine WX.thenRet ?_
              refine WX.blockRet ?_
              refine WX.thenRet ?_
              refine WX.retE1 rfl rfl ?_
              simp (disch := omega) only [if_pos, if_neg]
              first | exact ⟨trivial, hU⟩ | exact ⟨rfl, hU⟩
           · try (exfalso; first | (simp at hc5; done) | (simp only [decide_eq_true_eq, decide_eq_false_iff_not, Bool.not_eq_true', Bool.not_eq_false', Bool.not_eq_true, Bool.not_eq_false] at hc5; omega) | omega)
             all_goals
              try simp only [decide_eq_true_eq, decide_eq_false_iff_not, Bool.not_eq_true', Bool.not_eq_false', Bool.not_eq_true, Bool.not_eq_false, Option.isNone_none, Option.isNone_some, Option.isSome_none, Option.isSome_some, ne_eq, Decidable.not_not] at hc5
              refine WC.skip ?_
              refine WX.next ?_
              refine WC.seq ?_
              refine WC.region ?_
              first | refine WL.val rfl rfl rfl rfl (r_field0 rfl (ev_t rfl) fld_55_1) ?_ | refine WL.val rfl rfl rfl rfl (r_fieldAt rfl (ev_t rfl) fld_55_1) ?_
              refine WL.val rfl rfl rfl rfl (r_load rfl (ev_t rfl) flat_2 (Blk.cell hB1 rfl)) ?_
              refine WL.val rfl rfl rfl rfl (r_assign rfl (ev_t rfl)) ?_
              refine WL.nil ?_
              refine WX.keep [(2, _)] ⟨rfl, trivial⟩ ?_
              refine WX.next ?_
              refine WC.ret ?_
              refine WX.blockRet ?_
              refine WX.thenRet ?_
              refine WX.retE1 rfl rfl ?_
              simp (disch := omega) only [if_pos, if_neg]
              first | exact ⟨trivial, hU⟩ | exact ⟨rfl, hU⟩
     · try (exfalso; first | (simp at hc4; done) | (simp only [decide_eq_true_eq, decide_eq_false_iff_not, Bool.not_eq_true', Bool.not_eq_false', Bool.not_eq_true, Bool.not_eq_false] at hc4; omega) | omega)
       all_goals
        try simp only [decide_eq_true_eq, decide_eq_false_iff_not, Bool.not_eq_true', Bool.not_eq_false', Bool.not_eq_true, Bool.not_eq_false, Option.isNone_none, Option.isNone_some, Option.isSome_none, Option.isSome_some, ne_eq, Decidable.not_not] at hc4
        refine WC.seq ?_
        refine WC.region ?_
        refine WL.val rfl rfl rfl rfl (r_eql rfl (ev_t rfl) ev_c) ?_
        refine WL.val rfl rfl rfl rfl (r_assign rfl (ev_t rfl)) ?_
        refine WL.nil ?_
        refine WX.keep [(1, _), (4, _), (21, _)] ⟨rfl, rfl, rfl, trivial⟩ ?_
        refine WX.next ?_
        refine WC.condT rfl (fun hc8 => ?_) (fun hc8 => ?_)
        · try (exfalso; first | (simp at hc8; done) | (simp only [decide_eq_true_eq, decide_eq_false_iff_not, Bool.not_eq_true', Bool.not_eq_false', Bool.not_eq_true, Bool.not_eq_false] at hc8; omega) | omega)
          all_goals
           try simp only [decide_eq_true_eq, decide_eq_false_iff_not, Bool.not_eq_true', Bool.not_eq_false', Bool.not_eq_true, Bool.not_eq_false, Option.isNone_none, Option.isNone_some, Option.isSome_none, Option.isSome_some, ne_eq, Decidable.not_not] at hc8
           refine WC.seq ?_
           refine WC.seq ?_
           refine WC.region ?_
           first | refine WL.val rfl rfl rfl rfl (r_field0 rfl (ev_t rfl) fld_55_1) ?_ | refine WL.val rfl rfl rfl rfl (r_fieldAt rfl (ev_t rfl) fld_55_1) ?_
           refine WL.val rfl rfl rfl rfl (r_load rfl (ev_t rfl) flat_2 (Blk.cell hB1 rfl)) ?_
           refine WL.val rfl rfl rfl rfl (r_lss rfl (ev_t rfl) ev_c) ?_
           refine WL.val rfl rfl rfl rfl (r_move rfl (ev_t rfl)) ?_
           refine WL.cases 26 rfl (fun hb9_3 => ?_) (fun hb9_3 => ?_)
           · try (exfalso; first | (simp at hb9_3; done) | (simp only [decide_eq_true_eq, decide_eq_false_iff_not, Bool.not_eq_true', Bool.not_eq_false', Bool.not_eq_true, Bool.not_eq_false] at hb9_3; omega) | omega)
             all_goals
              try simp only [decide_eq_true_eq, decide_eq_false_iff_not, Bool.not_eq_true', Bool.not_eq_false', Bool.not_eq_true, Bool.not_eq_false, Option.isNone_none, Option.isNone_some, Option.isSome_none, Option.isSome_some, ne_eq, Decidable.not_not] at hb9_3
              refine WL.skip rfl rfl rfl ?_
              refine WL.skip rfl rfl rfl ?_
              refine WL.skip rfl rfl rfl ?_
              refine WL.val rfl rfl rfl rfl (r_pickT rfl (ev_t rfl) ev_c) ?_
              refine WL.nil ?_
              refine WX.keep [(1, _), (30, _)] ⟨rfl, rfl, trivial⟩ ?_
              refine WX.next ?_
              refine WC.cond_true rfl (ev_t rfl) ?_
              refine WC.seq ?_
              refine WC.region ?_
              refine WL.val rfl rfl rfl rfl (r_assign rfl ev_c) ?_
              refine WL.nil ?_
              refine WX.keep [(2, _)] ⟨rfl, trivial⟩ ?_
              refine WX.next ?_
              refine WC.ret ?_
              refine WX.thenRet ?_
              refine WX.blockRet ?_
              refine WX.thenRet ?_
              refine WX.retE1 rfl rfl ?_
              simp (disch := omega) only [if_pos, if_neg]
              first | exact ⟨trivial, hU⟩ | exact ⟨rfl, hU⟩
           · try (exfalso; first | (simp at hb9_3; done) | (simp only [decide_eq_true_eq, decide_eq_false_iff_not, Bool.not_eq_true', Bool.not_eq_false', Bool.not_eq_true, Bool.not_eq_false] at hb9_3; omega) | omega)
             all_goals
              try simp only [decide_eq_true_eq, decide_eq_false_iff_not, Bool.not_eq_true', Bool.not_eq_false', Bool.not_eq_true, Bool.not_eq_false, Option.isNone_none, Option.isNone_some, Option.isSome_none, Option.isSome_some, ne_eq, Decidable.not_not] at hb9_3
              first | refine WL.val rfl rfl rfl rfl (r_field0 rfl (ev_t rfl) fld_55_1) ?_ | refine WL.val rfl rfl rfl rfl (r_fieldAt rfl (ev_t rfl) fld_55_1) ?_
              refine WL.val rfl rfl rfl rfl (r_load rfl (ev_t rfl) flat_2 (Blk.cell hB1 rfl)) ?_
              refine WL.val rfl rfl rfl rfl (r_gtr rfl (ev_t rfl) ev_c) ?_
              refine WL.val rfl rfl rfl rfl (r_pickF rfl (ev_t rfl) (ev_t rfl)) ?_
              refine WL.nil ?_
              refine WX.keep [(1, _), (30, _)] ⟨rfl, rfl, trivial⟩ ?_
              refine WX.next ?_
              refine WC.condT rfl (fun hc9 => ?_) (fun hc9 => ?_)
              · try (exfalso; first | (simp at hc9; done) | (simp only [decide_eq_true_eq, decide_eq_false_iff_not, Bool.not_eq_true', Bool.not_eq_false', Bool.not_eq_true, Bool.not_eq_false] at hc9; omega) | omega)
                all_goals
                 try simp only [decide_eq_true_eq, decide_eq_false_iff_not, Bool.not_eq_true', Bool.not_eq_false', Bool.not_eq_true, Bool.not_eq_false, Option.isNone_none, Option.isNone_some, Option.isSome_none, Option.isSome_some, ne_eq, Decidable.not_not] at hc9
                 refine WC.seq ?_
                 refine WC.region ?_
                 refine WL.val rfl rfl rfl rfl (r_assign rfl ev_c) ?_
                 refine WL.nil ?_
                 refine WX.keep [(2, _)] ⟨rfl, trivial⟩ ?_
                 refine WX.next ?_
                 refine WC.ret ?_
                 refine WX.thenRet ?_
                 refine WX.blockRet ?_
                 refine WX.thenRet ?_
                 refine WX.retE1 rfl rfl ?_
                 simp (disch := omega) only [if_pos, if_neg]
                 first | exact ⟨trivial, hU⟩ | exact ⟨rfl, hU⟩
              · try (exfalso; first | (simp at hc9; done) | (simp only [decide_eq_true_eq, decide_eq_false_iff_not, Bool.not_eq_true', Bool.not_eq_false', Bool.not_eq_true, Bool.not_eq_false] at hc9; omega) | omega)
                all_goals
                 try simp only [decide_eq_true_eq, decide_eq_false_iff_not, Bool.not_eq_true', Bool.not_eq_false', Bool.not_eq_true, Bool.not_eq_false, Option.isNone_none, Option.isNone_some, Option.isSome_none, Option.isSome_some, ne_eq, Decidable.not_not] at hc9
                 refine WC.skip ?_
                 refine WX.next ?_
                 refine WC.seq ?_
                 refine WC.region ?_
                 first | refine WL.val rfl rfl rfl rfl (r_field0 rfl (ev_t rfl) fld_55_1) ?_ | refine WL.val rfl rfl rfl rfl (r_fieldAt rfl (ev_t rfl) fld_55_1) ?_
                 refine WL.val rfl rfl rfl rfl (r_load rfl (ev_t rfl) flat_2 (Blk.cell hB1 rfl)) ?_
                 first | refine WL.val rfl rfl rfl rfl (r_addN rfl (ev_t rfl) ev_c (by simp only [inK]; omega)) ?_ | refine WL.val rfl rfl rfl rfl (r_add rfl (ev_t rfl) ev_c) ?_
                 refine WL.val rfl rfl rfl rfl (r_assign rfl (ev_t rfl)) ?_
                 refine WL.nil ?_
                 refine WX.keep [(2, _)] ⟨rfl, trivial⟩ ?_
                 refine WX.next ?_
                 refine WC.ret ?_
                 refine WX.blockRet ?_
                 refine WX.thenRet ?_
                 refine WX.retE1 rfl rfl ?_
                 simp (disch := omega) only [if_pos, if_neg]
                 first | exact ⟨trivial, hU⟩ | exact ⟨rfl, hU⟩
        · try (exfalso; first | (simp at hc8; done) | (simp only [decide_eq_true_eq, decide_eq_false_iff_not, Bool.not_eq_true', Bool.not_eq_false', Bool.not_eq_true, Bool.not_eq_false] at hc8; omega) | omega)
          all_goals
           try simp only [decide_eq_true_eq, decide_eq_false_iff_not, Bool.not_eq_true', Bool.not_eq_false', Bool.not_eq_true, Bool.not_eq_false, Option.isNone_none, Option.isNone_some, Option.isSome_none, Option.isSome_some, ne_eq, Decidable.not_not] at hc8
           refine WC.seq ?_
           refine WC.seq ?_
           refine WC.region ?_
           refine WL.val rfl rfl rfl rfl (r_eql rfl (ev_t rfl) ev_c) ?_
           refine WL.val rfl rfl rfl rfl (r_assign rfl (ev_t rfl)) ?_
           refine WL.nil ?_
           refine WX.keep [(1, _), (4, _), (34, _)] ⟨rfl, rfl, rfl, trivial⟩ ?_
           refine WX.next ?_
           refine WC.condT rfl (fun hc12 => ?_) (fun hc12 => ?_)
           · try (exfalso; first | (simp at hc12; done) | (simp only [decide_eq_true_eq, decide_eq_false_iff_not, Bool.not_eq_true', Bool.not_eq_false', Bool.not_eq_true, Bool.not_eq_false] at hc12; omega) | omega)
             all_goals
              try simp only [decide_eq_true_eq, decide_eq_false_iff_not, Bool.not_eq_true', Bool.not_eq_false', Bool.not_eq_true, Bool.not_eq_false, Option.isNone_none, Option.isNone_some, Option.isSome_none, Option.isSome_some, ne_eq, Decidable.not_not] at hc12
              refine WC.skip ?_
              refine WX.next ?_
              refine WC.cond_true rfl (ev_t rfl) ?_
              refine WC.seq ?_
              refine WC.seq ?_
              refine WC.region ?_
              first | refine WL.val rfl rfl rfl rfl (r_field0 rfl (ev_t rfl) fld_55_1) ?_ | refine WL.val rfl rfl rfl rfl (r_fieldAt rfl (ev_t rfl) fld_55_1) ?_
              refine WL.val rfl rfl rfl rfl (r_load rfl (ev_t rfl) flat_2 (Blk.cell hB1 rfl)) ?_
              refine WL.val rfl rfl rfl rfl (r_lss rfl (ev_t rfl) ev_c) ?_
              refine WL.val rfl rfl rfl rfl (r_move rfl (ev_t rfl)) ?_
              refine WL.cases 41 rfl (fun hb15_3 => ?_) (fun hb15_3 => ?_)
              · try (exfalso; first | (simp at hb15_3; done) | (simp only [decide_eq_true_eq, decide_eq_false_iff_not, Bool.not_eq_true', Bool.not_eq_false', Bool.not_eq_true, Bool.not_eq_false] at hb15_3; omega) | omega)
                all_goals
                 try simp only [decide_eq_true_eq, decide_eq_false_iff_not, Bool.not_eq_true', Bool.not_eq_false', Bool.not_eq_true, Bool.not_eq_false, Option.isNone_none, Option.isNone_some, Option.isSome_none, Option.isSome_some, ne_eq, Decidable.not_not] at hb15_3
                 refine WL.skip rfl rfl rfl ?_
                 refine WL.skip rfl rfl rfl ?_
                 refine WL.skip rfl rfl rfl ?_
                 refine WL.val rfl rfl rfl rfl (r_pickT rfl (ev_t rfl) ev_c) ?_
                 refine WL.nil ?_
                 refine WX.keep [(45, _)] ⟨rfl, trivial⟩ ?_
                 refine WX.next ?_
                 refine WC.cond_true rfl (ev_t rfl) ?_
                 refine WC.seq ?_
                 refine WC.region ?_
                 refine WL.val rfl rfl rfl rfl (r_assign rfl ev_c) ?_
                 refine WL.nil ?_
                 refine WX.keep [(2, _)] ⟨rfl, trivial⟩ ?_
                 refine WX.next ?_
                 refine WC.ret ?_
                 refine WX.thenRet ?_
                 refine WX.blockRet ?_
                 refine WX.thenRet ?_
                 refine WX.retE1 rfl rfl ?_
                 simp (disch := omega) only [if_pos, if_neg]
                 first | exact ⟨trivial, hU⟩ | exact ⟨rfl, hU⟩
              · try (exfalso; first | (simp at hb15_3; done) | (simp only [decide_eq_true_eq, decide_eq_false_iff_not, Bool.not_eq_true', Bool.not_eq_false', Bool.not_eq_true, Bool.not_eq_false] at hb15_3; omega) | omega)
                all_goals
                 try simp only [decide_eq_true_eq, decide_eq_false_iff_not, Bool.not_eq_true', Bool.not_eq_false', Bool.not_eq_true, Bool.not_eq_false, Option.isNone_none, Option.isNone_some, Option.isSome_none, Option.isSome_some, ne_eq, Decidable.not_not] at hb15_3
                 first | refine WL.val rfl rfl rfl rfl (r_field0 rfl (ev_t rfl) fld_55_1) ?_ | refine WL.val rfl rfl rfl rfl (r_fieldAt rfl (ev_t rfl) fld_55_1) ?_
                 refine WL.val rfl rfl rfl rfl (r_load rfl (ev_t rfl) flat_2 (Blk.cell hB1 rfl)) ?_
                 refine WL.val rfl rfl rfl rfl (r_gtr rfl (ev_t rfl) ev_c) ?_
                 refine WL.val rfl rfl rfl rfl (r_pickF rfl (ev_t rfl) (ev_t rfl)) ?_
                 refine WL.nil ?_
                 refine WX.keep [(45, _)] ⟨rfl, trivial⟩ ?_
                 refine WX.next ?_
                 refine WC.condT rfl (fun hc15 => ?_) (fun hc15 => ?_)
                 · try (exfalso; first | (simp at hc15; done) | (simp only [decide_eq_true_eq, decide_eq_false_iff_not, Bool.not_eq_true', Bool.not_eq_false', Bool.not_eq_true, Bool.not_eq_false] at hc15; omega) | omega)
                   all_goals
                    try simp only [decide_eq_true_eq, decide_eq_false_iff_not, Bool.not_eq_true', Bool.not_eq_false', Bool.not_eq_true, Bool.not_eq_false, Option.isNone_none, Option.isNone_some, Option.isSome_none, Option.isSome_some, ne_eq, Decidable.not_not] at hc15
                    refine WC.seq ?_
                    refine WC.region ?_
                    refine WL.val rfl rfl rfl rfl (r_assign rfl ev_c) ?_
                    refine WL.nil ?_
                    refine WX.keep [(2, _)] ⟨rfl, trivial⟩ ?_
                    refine WX.next ?_
                    refine WC.ret ?_
                    refine WX.thenRet ?_
                    refine WX.blockRet ?_
                    refine WX.thenRet ?_
                    refine WX.retE1 rfl rfl ?_
                    simp (disch := omega) only [if_pos, if_neg]
                    first | exact ⟨trivial, hU⟩ | exact ⟨rfl, hU⟩
                 · try (exfalso; first | (simp at hc15; done) | (simp only [decide_eq_true_eq, decide_eq_false_iff_not, Bool.not_eq_true', Bool.not_eq_false', Bool.not_eq_true, Bool.not_eq_false] at hc15; omega) | omega)
                   all_goals
                    try simp only [decide_eq_true_eq, decide_eq_false_iff_not, Bool.not_eq_true', Bool.not_eq_false', Bool.not_eq_true, Bool.not_eq_false, Option.isNone_none, Option.isNone_some, Option.isSome_none, Option.isSome_some, ne_eq, Decidable.not_not] at hc15
                    refine WC.skip ?_
                    refine WX.next ?_
                    refine WC.seq ?_
                    refine WC.region ?_
                    refine WL.val rfl rfl rfl rfl (r_assign rfl ev_c) ?_
                    refine WL.nil ?_
                    refine WX.keep [(2, _)] ⟨rfl, trivial⟩ ?_
                    refine WX.next ?_
                    refine WC.ret ?_
                    refine WX.blockRet ?_
                    refine WX.thenRet ?_
                    refine WX.retE1 rfl rfl ?_
                    simp (disch := omega) only [if_pos, if_neg]
                    first | exact ⟨trivial, hU⟩ | exact ⟨rfl, hU⟩
           · try (exfalso; first | (simp at hc12; done) | (simp only [decide_eq_true_eq, decide_eq_false_iff_not, Bool.not_eq_true', Bool.not_eq_false', Bool.not_eq_true, Bool.not_eq_false] at hc12; omega) | omega)
             all_goals
              try simp only [decide_eq_true_eq, decide_eq_false_iff_not, Bool.not_eq_true', Bool.not_eq_false', Bool.not_eq_true, Bool.not_eq_false, Option.isNone_none, Option.isNone_some, Option.isSome_none, Option.isSome_some, ne_eq, Decidable.not_not] at hc12
              refine WC.seq ?_
              refine WC.region ?_
              refine WL.val rfl rfl rfl rfl (r_eql rfl (ev_t rfl) ev_c) ?_
              refine WL.val rfl rfl rfl rfl (r_assign rfl (ev_t rfl)) ?_
              refine WL.nil ?_
              refine WX.keep [(1, _), (4, _), (34, _)] ⟨rfl, rfl, rfl, trivial⟩ ?_
              refine WX.next ?_
              refine WC.condT rfl (fun hc13 => ?_) (fun hc13 => ?_)
              · try (exfalso; first | (simp at hc13; done) | (simp only [decide_eq_true_eq, decide_eq_false_iff_not, Bool.not_eq_true', Bool.not_eq_false', Bool.not_eq_true, Bool.not_eq_false] at hc13; omega) | omega)
                all_goals
                 try simp only [decide_eq_true_eq, decide_eq_false_iff_not, Bool.not_eq_true', Bool.not_eq_false', Bool.not_eq_true, Bool.not_eq_false, Option.isNone_none, Option.isNone_some, Option.isSome_none, Option.isSome_some, ne_eq, Decidable.not_not] at hc13
                 refine WC.skip ?_
                 refine WX.next ?_
                 refine WC.cond_true rfl (ev_t rfl) ?_
                 refine WC.seq ?_
                 refine WC.seq ?_
                 refine WC.region ?_
                 first | refine WL.val rfl rfl rfl rfl (r_field0 rfl (ev_t rfl) fld_55_1) ?_ | refine WL.val rfl rfl rfl rfl (r_fieldAt rfl (ev_t rfl) fld_55_1) ?_
                 refine WL.val rfl rfl rfl rfl (r_load rfl (ev_t rfl) flat_2 (Blk.cell hB1 rfl)) ?_
                 refine WL.val rfl rfl rfl rfl (r_lss rfl (ev_t rfl) ev_c) ?_
                 refine WL.val rfl rfl rfl rfl (r_move rfl (ev_t rfl)) ?_
                 refine WL.cases 41 rfl (fun hb15_3 => ?_) (fun hb15_3 => ?_)
                 · try (exfalso; first | (simp at hb15_3; done) | (simp only [decide_eq_true_eq, decide_eq_false_iff_not, Bool.not_eq_true', Bool.not_eq_false', Bool.not_eq_true, Bool.not_eq_false] at hb15_3; omega) | omega)
                   all_goals
                    try simp only [decide_eq_true_eq, decide_eq_false_iff_not, Bool.not_eq_true', Bool.not_eq_false', Bool.not_eq_true, Bool.not_eq_false, Option.isNone_none, Option.isNone_some, Option.isSome_none, Option.isSome_some, ne_eq, Decidable.not_not] at hb15_3
                    refine WL.skip rfl rfl rfl ?_
                    refine WL.skip rfl rfl rfl ?_
                    refine WL.skip rfl rfl rfl ?_
                    refine WL.val rfl rfl rfl rfl (r_pickT rfl (ev_t rfl) ev_c) ?_
                    refine WL.nil ?_
                    refine WX.keep [(45, _)] ⟨rfl, trivial⟩ ?_
                    refine WX.next ?_
                    refine WC.cond_true rfl (ev_t rfl) ?_
                    refine WC.seq ?_
                    refine WC.region ?_
                    refine WL.val rfl rfl rfl rfl (r_assign rfl ev_c) ?_
                    refine WL.nil ?_
                    refine WX.keep [(2, _)] ⟨rfl, trivial⟩ ?_
                    refine WX.next ?_
                    refine WC.ret ?_
                    refine WX.thenRet ?_
                    refine WX.blockRet ?_
                    refine WX.thenRet ?_
                    refine WX.retE1 rfl rfl ?_
                    simp (disch := omega) only [if_pos, if_neg]
                    first | exact ⟨trivial, hU⟩ | exact ⟨rfl, hU⟩
                 · try (exfalso; first | (simp at hb15_3; done) | (simp only [decide_eq_true_eq, decide_eq_false_iff_not, Bool.not_eq_true', Bool.not_eq_false', Bool.not_eq_true, Bool.not_eq_false] at hb15_3; omega) | omega)
                   all_goals
                    try simp only [decide_eq_true_eq, decide_eq_false_iff_not, Bool.not_eq_true', Bool.not_eq_false', Bool.not_eq_true, Bool.not_eq_false, Option.isNone_none, Option.isNone_some, Option.isSome_none, Option.isSome_some, ne_eq, Decidable.not_not] at hb15_3
                    first | refine WL.val rfl rfl rfl rfl (r_field0 rfl (ev_t rfl) fld_55_1) ?_ | refine WL.val rfl rfl rfl rfl (r_fieldAt rfl (ev_t rfl) fld_55_1) ?_
                    refine WL.val rfl rfl rfl rfl (r_load rfl (ev_t rfl) flat_2 (Blk.cell hB1 rfl)) ?_
                    refine WL.val rfl rfl rfl rfl (r_gtr rfl (ev_t rfl) ev_c) ?_
                    refine WL.val rfl rfl rfl rfl (r_pickF rfl (ev_t rfl) (ev_t rfl)) ?_
                    refine WL.nil ?_
                    refine WX.keep [(45, _)] ⟨rfl, trivial⟩ ?_
                    refine WX.next ?_
                    refine WC.condT rfl (fun hc15 => ?_) (fun hc15 => ?_)
                    · try (exfalso; first | (simp at hc15; done) | (simp only [decide_eq_true_eq, decide_eq_false_iff_not, Bool.not_eq_true', Bool.not_eq_false', Bool.not_eq_true, Bool.not_eq_false] at hc15; omega) | omega)
                      all_goals
                       try simp only [decide_eq_true_eq, decide_eq_false_iff_not, Bool.not_eq_true', Bool.not_eq_false', Bool.not_eq_true, Bool.not_eq_false, Option.isNone_none, Option.isNone_some, Option.isSome_none, Option.isSome_some, ne_eq, Decidable.not_not] at hc15
                       refine WC.seq ?_
                       refine WC.region ?_
                       refine WL.val rfl rfl rfl rfl (r_assign rfl ev_c) ?_
                       refine WL.nil ?_
                       refine WX.keep [(2, _)] ⟨rfl, trivial⟩ ?_
                       refine WX.next ?_
                       refine WC.ret ?_
                       refine WX.thenRet ?_
                       refine WX.blockRet ?_
                       refine WX.thenRet ?_
                       refine WX.retE1 rfl rfl ?_
                       simp (disch := omega) only [if_pos, if_neg]
                       first | exact ⟨trivial, hU⟩ | exact ⟨rfl, hU⟩
                    · try (exfalso; first | (simp at hc15; done) | (simp only [decide_eq_true_eq, decide_eq_false_iff_not, Bool.not_eq_true', Bool.not_eq_false', Bool.not_eq_true, Bool.not_eq_false] at hc15; omega) | omega)
                      all_goals
                       try simp only [decide_eq_true_eq, decide_eq_false_iff_not, Bool.not_eq_true', Bool.not_eq_false', Bool.not_eq_true, Bool.not_eq_false, Option.isNone_none, Option.isNone_some, Option.isSome_none, Option.isSome_some, ne_eq, Decidable.not_not] at hc15
                       refine WC.skip ?_
                       refine WX.next ?_
                       refine WC.seq ?_
                       refine WC.region ?_
                       refine WL.val rfl rfl rfl rfl (r_assign rfl ev_c) ?_
                       refine WL.nil ?_
                       refine WX.keep [(2, _)] ⟨rfl, trivial⟩ ?_
                       refine WX.next ?_
                       refine WC.ret ?_
                       refine WX.blockRet ?_
                       refine WX.thenRet ?_
                       refine WX.retE1 rfl rfl ?_
                       simp (disch := omega) only [if_pos, if_neg]
                       first | exact ⟨trivial, hU⟩ | exact ⟨rfl, hU⟩
              · try (exfalso; first | (simp at hc13; done) | (simp only [decide_eq_true_eq, decide_eq_false_iff_not, Bool.not_eq_true', Bool.not_eq_false', Bool.not_eq_true, Bool.not_eq_false] at hc13; omega) | omega)
                all_goals
                 try simp only [decide_eq_true_eq, decide_eq_false_iff_not, Bool.not_eq_true', Bool.not_eq_false', Bool.not_eq_true, Bool.not_eq_false, Option.isNone_none, Option.isNone_some, Option.isSome_none, Option.isSome_some, ne_eq, Decidable.not_not] at hc13
                 refine WC.region ?_
                 refine WL.val rfl rfl rfl rfl (r_eql rfl (ev_t rfl) ev_c) ?_
                 refine WL.val rfl rfl rfl rfl (r_assign rfl (ev_t rfl)) ?_
                 refine WL.nil ?_
                 refine WX.keep [(1, _), (4, _), (34, _)] ⟨rfl, rfl, rfl, trivial⟩ ?_
                 refine WX.next ?_
                 refine WC.condT rfl (fun hc14 => ?_) (fun hc14 => ?_)
                 · try (exfalso; first | (simp at hc14; done) | (simp only [decide_eq_true_eq, decide_eq_false_iff_not, Bool.not_eq_true', Bool.not_eq_false', Bool.not_eq_true, Bool.not_eq_false] at hc14; omega) | omega)
                   all_goals
                    try simp only [decide_eq_true_eq, decide_eq_false_iff_not, Bool.not_eq_true', Bool.not_eq_false', Bool.not_eq_true, Bool.not_eq_false, Option.isNone_none, Option.isNone_some, Option.isSome_none, Option.isSome_some, ne_eq, Decidable.not_not] at hc14
                    refine WC.seq ?_
                    refine WC.seq ?_
                    refine WC.region ?_
                    first | refine WL.val rfl rfl rfl rfl (r_field0 rfl (ev_t rfl) fld_55_1) ?_ | refine WL.val rfl rfl rfl rfl (r_fieldAt rfl (ev_t rfl) fld_55_1) ?_
                    refine WL.val rfl rfl rfl rfl (r_load rfl (ev_t rfl) flat_2 (Blk.cell hB1 rfl)) ?_
                    refine WL.val rfl rfl rfl rfl (r_lss rfl (ev_t rfl) ev_c) ?_
                    refine WL.val rfl rfl rfl rfl (r_move rfl (ev_t rfl)) ?_
                    refine WL.cases 41 rfl (fun hb15_3 => ?_) (fun hb15_3 => ?_)
                    · try (exfalso; first | (simp at hb15_3; done) | (simp only [decide_eq_true_eq, decide_eq_false_iff_not, Bool.not_eq_true', Bool.not_eq_false', Bool.not_eq_true, Bool.not_eq_false] at hb15_3; omega) | omega)
                      all_goals
                       try simp only [decide_eq_true_eq, decide_eq_false_iff_not, Bool.not_eq_true', Bool.not_eq_false', Bool.not_eq_true, Bool.not_eq_false, Option.isNone_none, Option.isNone_some, Option.isSome_none, Option.isSome_some, ne_eq, Decidable.not_not] at hb15_3
                       refine WL.skip rfl rfl rfl ?_
                       refine WL.skip rfl rfl rfl ?_
                       refine WL.skip rfl rfl rfl ?_
                       refine WL.val rfl rfl rfl rfl (r_pickT rfl (ev_t rfl) ev_c) ?_
                       refine WL.nil ?_
                       refine WX.keep [(45, _)] ⟨rfl, trivial⟩ ?_
                       refine WX.next ?_
                       refine WC.cond_true rfl (ev_t rfl) ?_
                       refine WC.seq ?_
                       refine WC.region ?_
                       refine WL.val rfl rfl rfl rfl (r_assign rfl ev_c) ?_
                       refine WL.nil ?_
                       refine WX.keep [(2, _)] ⟨rfl, trivial⟩ ?_
                       refine WX.next ?_
                       refine WC.ret ?_
                       refine WX.thenRet ?_
                       refine WX.blockRet ?_
                       refine WX.thenRet ?_
                       refine WX.retE1 rfl rfl ?_
                       simp (disch := omega) only [if_pos, if_neg]
                       first | exact ⟨trivial, hU⟩ | exact ⟨rfl, hU⟩
                    · try (exfalso; first | (simp at hb15_3; done) | (simp only [decide_eq_true_eq, decide_eq_false_iff_not, Bool.not_eq_true', Bool.not_eq_false', Bool.not_eq_true, Bool.not_eq_false] at hb15_3; omega) | omega)
                      all_goals
                       try simp only [decide_eq_true_eq, decide_eq_false_iff_not, Bool.not_eq_true', Bool.not_eq_false', Bool.not_eq_true, Bool.not_eq_false, Option.isNone_none, Option.isNone_some, Option.isSome_none, Option.isSome_some, ne_eq, Decidable.not_not] at hb15_3
                       first | refine WL.val rfl rfl rfl rfl (r_field0 rfl (ev_t rfl) fld_55_1) ?_ | refine WL.val rfl rfl rfl rfl (r_fieldAt rfl (ev_t rfl) fld_55_1) ?_
                       refine WL.val rfl rfl rfl rfl (r_load rfl (ev_t rfl) flat_2 (Blk.cell hB1 rfl)) ?_
                       refine WL.val rfl rfl rfl rfl (r_gtr rfl (ev_t rfl) ev_c) ?_
                       refine WL.val rfl rfl rfl rfl (r_pickF rfl (ev_t rfl) (ev_t rfl)) ?_
                       refine WL.nil ?_
                       refine WX.keep [(45, _)] ⟨rfl, trivial⟩ ?_
                       refine WX.next ?_
                       refine WC.condT rfl (fun hc15 => ?_) (fun hc15 => ?_)
                       · try (exfalso; first | (simp at hc15; done) | (simp only [decide_eq_true_eq, decide_eq_false_iff_not, Bool.not_eq_true', Bool.not_eq_false', Bool.not_eq_true, Bool.not_eq_false] at hc15; omega) | omega)
                         all_goals
                          try simp only [decide_eq_true_eq, decide_eq_false_iff_not, Bool.not_eq_true', Bool.not_eq_false', Bool.not_eq_true, Bool.not_eq_false, Option.isNone_none, Option.isNone_some, Option.isSome_none, Option.isSome_some, ne_eq, Decidable.not_not] at hc15
                          refine WC.seq ?_
                          refine WC.region ?_
                          refine WL.val rfl rfl rfl rfl (r_assign rfl ev_c) ?_
                          refine WL.nil ?_
                          refine WX.keep [(2, _)] ⟨rfl, trivial⟩ ?_
                          refine WX.next ?_
                          refine WC.ret ?_
                          refine WX.thenRet ?_
                          refine WX.blockRet ?_
                          refine WX.thenRet ?_
                          refine WX.retE1 rfl rfl ?_
                          simp (disch := omega) only [if_pos, if_neg]
                          first | exact ⟨trivial, hU⟩ | exact ⟨rfl, hU⟩
                       · try (exfalso; first | (simp at hc15; done) | (simp only [decide_eq_true_eq, decide_eq_false_iff_not, Bool.not_eq_true', Bool.not_eq_false', Bool.not_eq_true, Bool.not_eq_false] at hc15; omega) | omega)
                         all_goals
                          try simp only [decide_eq_true_eq, decide_eq_false_iff_not, Bool.not_eq_true', Bool.not_eq_false', Bool.not_eq_true, Bool.not_eq_false, Option.isNone_none, Option.isNone_some, Option.isSome_none, Option.isSome_some, ne_eq, Decidable.not_not] at hc15
                          refine WC.skip ?_
                          refine WX.next ?_
                          refine WC.seq ?_
                          refine WC.region ?_
                          refine WL.val rfl rfl rfl rfl (r_assign rfl ev_c) ?_
                          refine WL.nil ?_
                          refine WX.keep [(2, _)] ⟨rfl, trivial⟩ ?_
                          refine WX.next ?_
                          refine WC.ret ?_
                          refine WX.blockRet ?_
                          refine WX.thenRet ?_
                          refine WX.retE1 rfl rfl ?_
                          simp (disch := omega) only [if_pos, if_neg]
                          first | exact ⟨trivial, hU⟩ | exact ⟨rfl, hU⟩
                 · try (exfalso; first | (simp at hc14; done) | (simp only [decide_eq_true_eq, decide_eq_false_iff_not, Bool.not_eq_true', Bool.not_eq_false', Bool.not_eq_true, Bool.not_eq_false] at hc14; omega) | omega)
                   all_goals
                    try simp only [decide_eq_true_eq, decide_eq_false_iff_not, Bool.not_eq_true', Bool.not_eq_false', Bool.not_eq_true, Bool.not_eq_false, Option.isNone_none, Option.isNone_some, Option.isSome_none, Option.isSome_some, ne_eq, Decidable.not_not] at hc14
                    refine WC.seq ?_
                    refine WC.region ?_
                    refine WL.val rfl rfl rfl rfl (r_eql rfl (ev_t rfl) ev_c) ?_
                    refine WL.val rfl rfl rfl rfl (r_assign rfl (ev_t rfl)) ?_
                    refine WL.nil ?_
                    refine WX.keep [(1, _), (4, _), (46, _)] ⟨rfl, rfl, rfl, trivial⟩ ?_
                    refine WX.next ?_
                    refine WC.condT rfl (fun hc18 => ?_) (fun hc18 => ?_)
                    · try (exfalso; first | (simp at hc18; done) | (simp only [decide_eq_true_eq, decide_eq_false_iff_not, Bool.not_eq_true', Bool.not_eq_false', Bool.not_eq_true, Bool.not_eq_false] at hc18; omega) | omega)
                      all_goals
                       try simp only [decide_eq_true_eq, decide_eq_false_iff_not, Bool.not_eq_true', Bool.not_eq_false', Bool.not_eq_true, Bool.not_eq_false, Option.isNone_none, Option.isNone_some, Option.isSome_none, Option.isSome_some, ne_eq, Decidable.not_not] at hc18
                       refine WC.seq ?_
                       refine WC.region ?_
                       refine WL.val rfl rfl rfl rfl (r_assign rfl ev_c) ?_
                       refine WL.nil ?_
                       refine WX.keep [(2, _)] ⟨rfl, trivial⟩ ?_
                       refine WX.next ?_
                       refine WC.ret ?_
                       refine WX.blockRet ?_
                       refine WX.thenRet ?_
                       refine WX.retE1 rfl rfl ?_
                       simp (disch := omega) only [if_pos, if_neg]
                       first | exact ⟨trivial, hU⟩ | exact ⟨rfl, hU⟩
                    · try (exfalso; first | (simp at hc18; done) | (simp only [decide_eq_true_eq, decide_eq_false_iff_not, Bool.not_eq_true', Bool.not_eq_false', Bool.not_eq_true, Bool.not_eq_false] at hc18; omega) | omega)
                      all_goals
                       try simp only [decide_eq_true_eq, decide_eq_false_iff_not, Bool.not_eq_true', Bool.not_eq_false', Bool.not_eq_true, Bool.not_eq_false, Option.isNone_none, Option.isNone_some, Option.isSome_none, Option.isSome_some, ne_eq, Decidable.not_not] at hc18
                       refine WC.seq ?_
                       refine WC.region ?_
                       refine WL.val rfl rfl rfl rfl (r_eql rfl (ev_t rfl) ev_c) ?_
                       refine WL.val rfl rfl rfl rfl (r_assign rfl (ev_t rfl)) ?_
                       refine WL.nil ?_
                       refine WX.keep [(1, _), (4, _), (48, _)] ⟨rfl, rfl, rfl, trivial⟩ ?_
                       refine WX.next ?_
                       refine WC.condT rfl (fun hc20 => ?_) (fun hc20 => ?_)
                       · try (exfalso; first | (simp at hc20; done) | (simp only [decide_eq_true_eq, decide_eq_false_iff_not, Bool.not_eq_true', Bool.not_eq_false', Bool.not_eq_true, Bool.not_eq_false] at hc20; omega) | omega)
                         all_goals
                          try simp only [decide_eq_true_eq, decide_eq_false_iff_not, Bool.not_eq_true', Bool.not_eq_false', Bool.not_eq_true, Bool.not_eq_false, Option.isNone_none, Option.isNone_some, Option.isSome_none, Option.isSome_some, ne_eq, Decidable.not_not] at hc20
                          refine WC.seq ?_
                          refine WC.seq ?_
                          refine WC.region ?_
                          first | refine WL.val rfl rfl rfl rfl (r_field0 rfl (ev_t rfl) fld_55_1) ?_ | refine WL.val rfl rfl rfl rfl (r_fieldAt rfl (ev_t rfl) fld_55_1) ?_
                          refine WL.val rfl rfl rfl rfl (r_load rfl (ev_t rfl) flat_2 (Blk.cell hB1 rfl)) ?_
                          refine WL.val rfl rfl rfl rfl (r_lss rfl (ev_t rfl) ev_c) ?_
                          refine WL.val rfl rfl rfl rfl (r_move rfl (ev_t rfl)) ?_
                          refine WL.cases 53 rfl (fun hb21_3 => ?_) (fun hb21_3 => ?_)
                          · try (exfalso; first | (simp at hb21_3; done) | (simp only [decide_eq_true_eq, decide_eq_false_iff_not, Bool.not_eq_true', Bool.not_eq_false', Bool.not_eq_true, Bool.not_eq_false] at hb21_3; omega) | omega)
                            all_goals
                             try simp only [decide_eq_true_eq, decide_eq_false_iff_not, Bool.not_eq_true', Bool.not_eq_false', Bool.not_eq_true, Bool.not_eq_false, Option.isNone_none, Option.isNone_some, Option.isSome_none, Option.isSome_some, ne_eq, Decidable.not_not] at hb21_3
                             refine WL.skip rfl rfl rfl ?_
                             refine WL.skip rfl rfl rfl ?_
                             refine WL.skip rfl rfl rfl ?_
                             refine WL.val rfl rfl rfl rfl (r_pickT rfl (ev_t rfl) ev_c) ?_
                             refine WL.nil ?_
                             refine WX.keep [(57, _)] ⟨rfl, trivial⟩ ?_
                             refine WX.next ?_
                             refine WC.cond_true rfl (ev_t rfl) ?_
                             refine WC.seq ?_
                             refine WC.region ?_
                             refine WL.val rfl rfl rfl rfl (r_assign rfl ev_c) ?_
                             refine WL.nil ?_
                             refine WX.keep [(2, _)] ⟨rfl, trivial⟩ ?_
                             refine WX.next ?_
                             refine WC.ret ?_
                             refine WX.thenRet ?_
                             refine WX.blockRet ?_
                             refine WX.thenRet ?_
                             refine WX.retE1 rfl rfl ?_
                             simp (disch := omega) only [if_pos, if_neg]
                             first | exact ⟨trivial, hU⟩ | exact ⟨rfl, hU⟩
                          · try (exfalso; first | (simp at hb21_3; done) | (simp only [decide_eq_true_eq, decide_eq_false_iff_not, Bool.not_eq_true', Bool.not_eq_false', Bool.not_eq_true, Bool.not_eq_false] at hb21_3; omega) | omega)
                            all_goals
                             try simp only [decide_eq_true_eq, decide_eq_false_iff_not, Bool.not_eq_true', Bool.not_eq_false', Bool.not_eq_true, Bool.not_eq_false, Option.isNone_none, Option.isNone_some, Option.isSome_none, Option.isSome_some, ne_eq, Decidable.not_not] at hb21_3
                             first | refine WL.val rfl rfl rfl rfl (r_field0 rfl (ev_t rfl) fld_55_1) ?_ | refine WL.val rfl rfl rfl rfl (r_fieldAt rfl (ev_t rfl) fld_55_1) ?_
                             refine WL.val rfl rfl rfl rfl (r_load rfl (ev_t rfl) flat_2 (Blk.cell hB1 rfl)) ?_
                             refine WL.val rfl rfl rfl rfl (r_gtr rfl (ev_t rfl) ev_c) ?_
                             refine WL.val rfl rfl rfl rfl (r_pickF rfl (ev_t rfl) (ev_t rfl)) ?_
                             refine WL.nil ?_
                             refine WX.keep [(57, _)] ⟨rfl, trivial⟩ ?_
                             refine WX.next ?_
                             refine WC.condT rfl (fun hc21 => ?_) (fun hc21 => ?_)
                             · try (exfalso; first | (simp at hc21; done) | (simp only [decide_eq_true_eq, decide_eq_false_iff_not, Bool.not_eq_true', Bool.not_eq_false', Bool.not_eq_true, Bool.not_eq_false] at hc21; omega) | omega)
                               all_goals
                                try simp only [decide_eq_true_eq, decide_eq_false_iff_not, Bool.not_eq_true', Bool.not_eq_false', Bool.not_eq_true, Bool.not_eq_false, Option.isNone_none, Option.isNone_some, Option.isSome_none, Option.isSome_some, ne_eq, Decidable.not_not] at hc21
                                refine WC.seq ?_
                                refine WC.region ?_
                                refine WL.val rfl rfl rfl rfl (r_assign rfl ev_c) ?_
                                refine WL.nil ?_
                                refine WX.keep [(2, _)] ⟨rfl, trivial⟩ ?_
                                refine WX.next ?_
                                refine WC.ret ?_
                                refine WX.thenRet ?_
                                refine WX.blockRet ?_
                                refine WX.thenRet ?_
                                refine WX.retE1 rfl rfl ?_
                                simp (disch := omega) only [if_pos, if_neg]
                                first | exact ⟨trivial, hU⟩ | exact ⟨rfl, hU⟩
                             · try (exfalso; first | (simp at hc21; done) | (simp only [decide_eq_true_eq, decide_eq_false_iff_not, Bool.not_eq_true', Bool.not_eq_false', Bool.not_eq_true, Bool.not_eq_false] at hc21; omega) | omega)
                               all_goals
                                try simp only [decide_eq_true_eq, decide_eq_false_iff_not, Bool.not_eq_true', Bool.not_eq_false', Bool.not_eq_true, Bool.not_eq_false, Option.isNone_none, Option.isNone_some, Option.isSome_none, Option.isSome_some, ne_eq, Decidable.not_not] at hc21
                                refine WC.skip ?_
                                refine WX.next ?_
                                refine WC.seq ?_
                                refine WC.region ?_
                                refine WL.val rfl rfl rfl rfl (r_assign rfl ev_c) ?_
                                refine WL.nil ?_
                                refine WX.keep [(2, _)] ⟨rfl, trivial⟩ ?_
                                refine WX.next ?_
                                refine WC.ret ?_
                                refine WX.blockRet ?_
                                refine WX.thenRet ?_
                                refine WX.retE1 rfl rfl ?_
                                simp (disch := omega) only [if_pos, if_neg]
                                first | exact ⟨trivial, hU⟩ | exact ⟨rfl, hU⟩
                       · try (exfalso; first | (simp at hc20; done) | (simp only [decide_eq_true_eq, decide_eq_false_iff_not, Bool.not_eq_true', Bool.not_eq_false', Bool.not_eq_true, Bool.not_eq_false] at hc20; omega) | omega)
                         all_goals
                          try simp only [decide_eq_true_eq, decide_eq_false_iff_not, Bool.not_eq_true', Bool.not_eq_false', Bool.not_eq_true, Bool.not_eq_false, Option.isNone_none, Option.isNone_some, Option.isSome_none, Option.isSome_some, ne_eq, Decidable.not_not] at hc20
                          refine WC.seq ?_
                          refine WC.seq ?_
                          refine WC.region ?_
                          refine WL.val rfl rfl rfl rfl (r_eql rfl (ev_t rfl) ev_c) ?_
                          refine WL.val rfl rfl rfl rfl (r_assign rfl (ev_t rfl)) ?_
                          refine WL.nil ?_
                          refine WX.keep [(4, _), (58, _)] ⟨rfl, rfl, trivial⟩ ?_
                          refine WX.next ?_
                          refine WC.condT rfl (fun hc24 => ?_) (fun hc24 => ?_)
                          · try (exfalso; first | (simp at hc24; done) | (simp only [decide_eq_true_eq, decide_eq_false_iff_not, Bool.not_eq_true', Bool.not_eq_false', Bool.not_eq_true, Bool.not_eq_false] at hc24; omega) | omega)
                            all_goals
                             try simp only [decide_eq_true_eq, decide_eq_false_iff_not, Bool.not_eq_true', Bool.not_eq_false', Bool.not_eq_true, Bool.not_eq_false, Option.isNone_none, Option.isNone_some, Option.isSome_none, Option.isSome_some, ne_eq, Decidable.not_not] at hc24
                             refine WC.skip ?_
                             refine WX.next ?_
                             refine WC.cond_true rfl (ev_t rfl) ?_
                             refine WC.seq ?_
                             refine WC.region ?_
                             refine WL.val rfl rfl rfl rfl (r_assign rfl ev_c) ?_
                             refine WL.nil ?_
                             refine WX.keep [(2, _)] ⟨rfl, trivial⟩ ?_
                             refine WX.next ?_
                             refine WC.ret ?_
                             refine WX.blockRet ?_
                             refine WX.thenRet ?_
                             refine WX.retE1 rfl rfl ?_
                             simp (disch := omega) only [if_pos, if_neg]
                             first | exact ⟨trivial, hU⟩ | exact ⟨rfl, hU⟩
                          · try (exfalso; first | (simp at hc24; done) | (simp only [decide_eq_true_eq, decide_eq_false_iff_not, Bool.not_eq_true', Bool.not_eq_false', Bool.not_eq_true, Bool.not_eq_false] at hc24; omega) | omega)
                            all_goals
                             try simp only [decide_eq_true_eq, decide_eq_false_iff_not, Bool.not_eq_true', Bool.not_eq_false', Bool.not_eq_true, Bool.not_eq_false, Option.isNone_none, Option.isNone_some, Option.isSome_none, Option.isSome_some, ne_eq, Decidable.not_not] at hc24
                             refine WC.seq ?_
                             refine WC.region ?_
                             refine WL.val rfl rfl rfl rfl (r_eql rfl (ev_t rfl) ev_c) ?_
                             refine WL.val rfl rfl rfl rfl (r_assign rfl (ev_t rfl)) ?_
                             refine WL.nil ?_
                             refine WX.keep [(4, _), (58, _)] ⟨rfl, rfl, trivial⟩ ?_
                             refine WX.next ?_
                             refine WC.condT rfl (fun hc25 => ?_) (fun hc25 => ?_)
                             · try (exfalso; first | (simp at hc25; done) | (simp only [decide_eq_true_eq, decide_eq_false_iff_not, Bool.not_eq_true', Bool.not_eq_false', Bool.not_eq_true, Bool.not_eq_false] at hc25; omega) | omega)
                               all_goals
                                try simp only [decide_eq_true_eq, decide_eq_false_iff_not, Bool.not_eq_true', Bool.not_eq_false', Bool.not_eq_true, Bool.not_eq_false, Option.isNone_none, Option.isNone_some, Option.isSome_none, Option.isSome_some, ne_eq, Decidable.not_not] at hc25
                                refine WC.skip ?_
                                refine WX.next ?_
                                refine WC.cond_true rfl (ev_t rfl) ?_
                                refine WC.seq ?_
                                refine WC.region ?_
                                refine WL.val rfl rfl rfl rfl (r_assign rfl ev_c) ?_
                                refine WL.nil ?_
                                refine WX.keep [(2, _)] ⟨rfl, trivial⟩ ?_
                                refine WX.next ?_
                                refine WC.ret ?_
                                refine WX.blockRet ?_
                                refine WX.thenRet ?_
                                refine WX.retE1 rfl rfl ?_
                                simp (disch := omega) only [if_pos, if_neg]
                                first | exact ⟨trivial, hU⟩ | exact ⟨rfl, hU⟩
                             · try (exfalso; first | (simp at hc25; done) | (simp only [decide_eq_true_eq, decide_eq_false_iff_not, Bool.not_eq_true', Bool.not_eq_false', Bool.not_eq_true, Bool.not_eq_false] at hc25; omega) | omega)
                               all_goals
                                try simp only [decide_eq_true_eq, decide_eq_false_iff_not, Bool.not_eq_true', Bool.not_eq_false', Bool.not_eq_true, Bool.not_eq_false, Option.isNone_none, Option.isNone_some, Option.isSome_none, Option.isSome_some, ne_eq, Decidable.not_not] at hc25
                                refine WC.seq ?_
                                refine WC.region ?_
                                refine WL.val rfl rfl rfl rfl (r_eql rfl (ev_t rfl) ev_c) ?_
                                refine WL.val rfl rfl rfl rfl (r_assign rfl (ev_t rfl)) ?_
                                refine WL.nil ?_
                                refine WX.keep [(4, _), (58, _)] ⟨rfl, rfl, trivial⟩ ?_
                                refine WX.next ?_
                                refine WC.condT rfl (fun hc26 => ?_) (fun hc26 => ?_)
                                · try (exfalso; first | (simp at hc26; done) | (simp only [decide_eq_true_eq, decide_eq_false_iff_not, Bool.not_eq_true', Bool.not_eq_false', Bool.not_eq_true, Bool.not_eq_false] at hc26; omega) | omega)
                                  all_goals
                                   try simp only [decide_eq_true_eq, decide_eq_false_iff_not, Bool.not_eq_true', Bool.not_eq_false', Bool.not_eq_true, Bool.not_eq_false, Option.isNone_none, Option.isNone_some, Option.isSome_none, Option.isSome_some, ne_eq, Decidable.not_not] at hc26
                                   refine WC.skip ?_
                                   refine WX.next ?_
                                   refine WC.cond_true rfl (ev_t rfl) ?_
                                   refine WC.seq ?_
                                   refine WC.region ?_
                                   refine WL.val rfl rfl rfl rfl (r_assign rfl ev_c) ?_
                                   refine WL.nil ?_
                                   refine WX.keep [(2, _)] ⟨rfl, trivial⟩ ?_
                                   refine WX.next ?_
                                   refine WC.ret ?_
                                   refine WX.blockRet ?_
                                   refine WX.thenRet ?_
                                   refine WX.retE1 rfl rfl ?_
                                   simp (disch := omega) only [if_pos, if_neg]
                                   first | exact ⟨trivial, hU⟩ | exact ⟨rfl, hU⟩
                                · try (exfalso; first | (simp at hc26; done) | (simp only [decide_eq_true_eq, decide_eq_false_iff_not, Bool.not_eq_true', Bool.not_eq_false', Bool.not_eq_true, Bool.not_eq_false] at hc26; omega) | omega)
                                  all_goals
                                   try simp only [decide_eq_true_eq, decide_eq_false_iff_not, Bool.not_eq_true', Bool.not_eq_false', Bool.not_eq_true, Bool.not_eq_false, Option.isNone_none, Option.isNone_some, Option.isSome_none, Option.isSome_some, ne_eq, Decidable.not_not] at hc26
                                   refine WC.seq ?_
                                   refine WC.region ?_
                                   refine WL.val rfl rfl rfl rfl (r_eql rfl (ev_t rfl) ev_c) ?_
                                   refine WL.val rfl rfl rfl rfl (r_assign rfl (ev_t rfl)) ?_
                                   refine WL.nil ?_
                                   refine WX.keep [(4, _), (58, _)] ⟨rfl, rfl, trivial⟩ ?_
                                   refine WX.next ?_
                                   refine WC.condT rfl (fun hc27 => ?_) (fun hc27 => ?_)
                                   · try (exfalso; first | (simp at hc27; done) | (simp only [decide_eq_true_eq, decide_eq_false_iff_not, Bool.not_eq_true', Bool.not_eq_false', Bool.not_eq_true, Bool.not_eq_false] at hc27; omega) | omega)
                                     all_goals
                                      try simp only [decide_eq_true_eq, decide_eq_false_iff_not, Bool.not_eq_true', Bool.not_eq_false', Bool.not_eq_true, Bool.not_eq_false, Option.isNone_none, Option.isNone_some, Option.isSome_none, Option.isSome_some, ne_eq, Decidable.not_not] at hc27
                                      refine WC.skip ?_
                                      refine WX.next ?_
                                      refine WC.cond_true rfl (ev_t rfl) ?_
                                      refine WC.seq ?_
                                      refine WC.region ?_
                                      refine WL.val rfl rfl rfl rfl (r_assign rfl ev_c) ?_
                                      refine WL.nil ?_
                                      refine WX.keep [(2, _)] ⟨rfl, trivial⟩ ?_
                                      refine WX.next ?_
                                      refine WC.ret ?_
                                      refine WX.blockRet ?_
                                      refine WX.thenRet ?_
                                      refine WX.retE1 rfl rfl ?_
                                      simp (disch := omega) only [if_pos, if_neg]
                                      first | exact ⟨trivial, hU⟩ | exact ⟨rfl, hU⟩
                                   · try (exfalso; first | (simp at hc27; done) | (simp only [decide_eq_true_eq, decide_eq_false_iff_not, Bool.not_eq_true', Bool.not_eq_false', Bool.not_eq_true, Bool.not_eq_false] at hc27; omega) | omega)
                                     all_goals
                                      try simp only [decide_eq_true_eq, decide_eq_false_iff_not, Bool.not_eq_true', Bool.not_eq_false', Bool.not_eq_true, Bool.not_eq_false, Option.isNone_none, Option.isNone_some, Option.isSome_none, Option.isSome_some, ne_eq, Decidable.not_not] at hc27
                                      refine WC.seq ?_
                                      refine WC.region ?_
                                      refine WL.val rfl rfl rfl rfl (r_eql rfl (ev_t rfl) ev_c) ?_
                                      refine WL.val rfl rfl rfl rfl (r_assign rfl (ev_t rfl)) ?_
                                      refine WL.nil ?_
                                      refine WX.keep [(4, _), (58, _)] ⟨rfl, rfl, trivial⟩ ?_
                                      refine WX.next ?_
                                      refine WC.condT rfl (fun hc28 => ?_) (fun hc28 => ?_)
                                      · try (exfalso; first | (simp at hc28; done) | (simp only [decide_eq_true_eq, decide_eq_false_iff_not, Bool.not_eq_true', Bool.not_eq_false', Bool.not_eq_true, Bool.not_eq_false] at hc28; omega) | omega)
                                        all_goals
                                         try simp only [decide_eq_true_eq, decide_eq_false_iff_not, Bool.not_eq_true', Bool.not_eq_false', Bool.not_eq_true, Bool.not_eq_false, Option.isNone_none, Option.isNone_some, Option.isSome_none, Option.isSome_some, ne_eq, Decidable.not_not] at hc28
                                         refine WC.skip ?_
                                         refine WX.next ?_
                                         refine WC.cond_true rfl (ev_t rfl) ?_
                                         refine WC.seq ?_
                                         refine WC.region ?_
                                         refine WL.val rfl rfl rfl rfl (r_assign rfl ev_c) ?_
                                         refine WL.nil ?_
                                         refine WX.keep [(2, _)] ⟨rfl, trivial⟩ ?_
                                         refine WX.next ?_
                                         refine WC.ret ?_
                                         refine WX.blockRet ?_
                                         refine WX.thenRet ?_
                                         refine WX.retE1 rfl rfl ?_
                                         simp (disch := omega) only [if_pos, if_neg]
                                         first | exact ⟨trivial, hU⟩ | exact ⟨rfl, hU⟩
                                      · try (exfalso; first | (simp at hc28; done) | (simp only [decide_eq_true_eq, decide_eq_false_iff_not, Bool.not_eq_true', Bool.not_eq_false', Bool.not_eq_true, Bool.not_eq_false] at hc28; omega) | omega)
                                        all_goals
                                         try simp only [decide_eq_true_eq, decide_eq_false_iff_not, Bool.not_eq_true', Bool.not_eq_false', Bool.not_eq_true, Bool.not_eq_false, Option.isNone_none, Option.isNone_some, Option.isSome_none, Option.isSome_some, ne_eq, Decidable.not_not] at hc28
                                         refine WC.seq ?_
                                         refine WC.region ?_
                                         refine WL.val rfl rfl rfl rfl (r_eql rfl (ev_t rfl) ev_c) ?_
                                         refine WL.val rfl rfl rfl rfl (r_assign rfl (ev_t rfl)) ?_
                                         refine WL.nil ?_
                                         refine WX.keep [(4, _), (58, _)] ⟨rfl, rfl, trivial⟩ ?_
                                         refine WX.next ?_
                                         refine WC.condT rfl (fun hc29 => ?_) (fun hc29 => ?_)
                                         · try (exfalso; first | (simp at hc29; done) | (simp only [decide_eq_true_eq, decide_eq_false_iff_not, Bool.not_eq_true', Bool.not_eq_false', Bool.not_eq_true, Bool.not_eq_false] at hc29; omega) | omega)
                                           all_goals
                                            try simp only [decide_eq_true_eq, decide_eq_false_iff_not, Bool.not_eq_true', Bool.not_eq_false', Bool.not_eq_true, Bool.not_eq_false, Option.isNone_none, Option.isNone_some, Option.isSome_none, Option.isSome_some, ne_eq, Decidable.not_not] at hc29
                                            refine WC.skip ?_
                                            refine WX.next ?_
                                            refine WC.cond_true rfl (ev_t rfl) ?_
                                            refine WC.seq ?_
                                            refine WC.region ?_
                                            refine WL.val rfl rfl rfl rfl (r_assign rfl ev_c) ?_
                                            refine WL.nil ?_
                                            refine WX.keep [(2, _)] ⟨rfl, trivial⟩ ?_
                                            refine WX.next ?_
                                            refine WC.ret ?_
                                            refine WX.blockRet ?_
                                            refine WX.thenRet ?_
                                            refine WX.retE1 rfl rfl ?_
                                            simp (disch := omega) only [if_pos, if_neg]
                                            first | exact ⟨trivial, hU⟩ | exact ⟨rfl, hU⟩
                                         · try (exfalso; first | (simp at hc29; done) | (simp only [decide_eq_true_eq, decide_eq_false_iff_not, Bool.not_eq_true', Bool.not_eq_false', Bool.not_eq_true, Bool.not_eq_false] at hc29; omega) | omega)
                                           all_goals
                                            try simp only [decide_eq_true_eq, decide_eq_false_iff_not, Bool.not_eq_true', Bool.not_eq_false', Bool.not_eq_true, Bool.not_eq_false, Option.isNone_none, Option.isNone_some, Option.isSome_none, Option.isSome_some, ne_eq, Decidable.not_not] at hc29
                                            refine WC.seq ?_
                                            refine WC.region ?_
                                            refine WL.val rfl rfl rfl rfl (r_eql rfl (ev_t rfl) ev_c) ?_
                                            refine WL.val rfl rfl rfl rfl (r_assign rfl (ev_t rfl)) ?_
                                            refine WL.nil ?_
                                            refine WX.keep [(4, _), (58, _)] ⟨rfl, rfl, trivial⟩ ?_
                                            refine WX.next ?_
                                            refine WC.condT rfl (fun hc30 => ?_) (fun hc30 => ?_)
                                            · try (exfalso; first | (simp at hc30; done) | (simp only [decide_eq_true_eq, decide_eq_false_iff_not, Bool.not_eq_true', Bool.not_eq_false', Bool.not_eq_true, Bool.not_eq_false] at hc30; omega) | omega)
                                              all_goals
                                               try simp only [decide_eq_true_eq, decide_eq_false_iff_not, Bool.not_eq_true', Bool.not_eq_false', Bool.not_eq_true, Bool.not_eq_false, Option.isNone_none, Option.isNone_some, Option.isSome_none, Option.isSome_some, ne_eq, Decidable.not_not] at hc30
                                               refine WC.skip ?_
                                               refine WX.next ?_
                                               refine WC.cond_true rfl (ev_t rfl) ?_
                                               refine WC.seq ?_
                                               refine WC.region ?_
                                               refine WL.val rfl rfl rfl rfl (r_assign rfl ev_c) ?_
                                               refine WL.nil ?_
                                               refine WX.keep [(2, _)] ⟨rfl, trivial⟩ ?_
                                               refine WX.next ?_
                                               refine WC.ret ?_
                                               refine WX.blockRet ?_
                                               refine WX.thenRet ?_
                                               refine WX.retE1 rfl rfl ?_
                                               simp (disch := omega) only [if_pos, if_neg]
                                               first | exact ⟨trivial, hU⟩ | exact ⟨rfl, hU⟩
                                            · try (exfalso; first | (simp at hc30; done) | (simp only [decide_eq_true_eq, decide_eq_false_iff_not, Bool.not_eq_true', Bool.not_eq_false', Bool.not_eq_true, Bool.not_eq_false] at hc30; omega) | omega)
                                              all_goals
                                               try simp only [decide_eq_true_eq, decide_eq_false_iff_not, Bool.not_eq_true', Bool.not_eq_false', Bool.not_eq_true, Bool.not_eq_false, Option.isNone_none, Option.isNone_some, Option.isSome_none, Option.isSome_some, ne_eq, Decidable.not_not] at hc30
                                               refine WC.seq ?_
                                               refine WC.region ?_
                                               refine WL.val rfl rfl rfl rfl (r_eql rfl (ev_t rfl) ev_c) ?_
                                               refine WL.val rfl rfl rfl rfl (r_assign rfl (ev_t rfl)) ?_
                                               refine WL.nil ?_
                                               refine WX.keep [(4, _), (58, _)] ⟨rfl, rfl, trivial⟩ ?_
                                               refine WX.next ?_
                                               refine WC.condT rfl (fun hc31 => ?_) (fun hc31 => ?_)
                                               · try (exfalso; first | (simp at hc31; done) | (simp only [decide_eq_true_eq, decide_eq_false_iff_not, Bool.not_eq_true', Bool.not_eq_false', Bool.not_eq_true, Bool.not_eq_false] at hc31; omega) | omega)
                                                 all_goals
                                                  try simp only [decide_eq_true_eq, decide_eq_false_iff_not, Bool.not_eq_true', Bool.not_eq_false', Bool.not_eq_true, Bool.not_eq_false, Option.isNone_none, Option.isNone_some, Option.isSome_none, Option.isSome_some, ne_eq, Decidable.not_not] at hc31
                                                  refine WC.skip ?_
                                                  refine WX.next ?_
                                                  refine WC.cond_true rfl (ev_t rfl) ?_
                                                  refine WC.seq ?_
                                                  refine WC.region ?_
                                                  refine WL.val rfl rfl rfl rfl (r_assign rfl ev_c) ?_
                                                  refine WL.nil ?_
                                                  refine WX.keep [(2, _)] ⟨rfl, trivial⟩ ?_
                                                  refine WX.next ?_
                                                  refine WC.ret ?_
                                                  refine WX.blockRet ?_
                                                  refine WX.thenRet ?_
                                                  refine WX.retE1 rfl rfl ?_
                                                  simp (disch := omega) only [if_pos, if_neg]
                                                  first | exact ⟨trivial, hU⟩ | exact ⟨rfl, hU⟩
                                               · try (exfalso; first | (simp at hc31; done) | (simp only [decide_eq_true_eq, decide_eq_false_iff_not, Bool.not_eq_true', Bool.not_eq_false', Bool.not_eq_true, Bool.not_eq_false] at hc31; omega) | omega)
                                                 all_goals
                                                  try simp only [decide_eq_true_eq, decide_eq_false_iff_not, Bool.not_eq_true', Bool.not_eq_false', Bool.not_eq_true, Bool.not_eq_false, Option.isNone_none, Option.isNone_some, Option.isSome_none, Option.isSome_some, ne_eq, Decidable.not_not] at hc31
                                                  refine WC.region ?_
                                                  refine WL.val rfl rfl rfl rfl (r_eql rfl (ev_t rfl) ev_c) ?_
                                                  refine WL.val rfl rfl rfl rfl (r_assign rfl (ev_t rfl)) ?_
                                                  refine WL.nil ?_
                                                  refine WX.keep [(4, _), (58, _)] ⟨rfl, rfl, trivial⟩ ?_
                                                  refine WX.next ?_
                                                  refine WC.condT rfl (fun hc32 => ?_) (fun hc32 => ?_)
                                                  · try (exfalso; first | (simp at hc32; done) | (simp only [decide_eq_true_eq, decide_eq_false_iff_not, Bool.not_eq_true', Bool.not_eq_false', Bool.not_eq_true, Bool.not_eq_false] at hc32; omega) | omega)
                                                    all_goals
                                                     try simp only [decide_eq_true_eq, decide_eq_false_iff_not, Bool.not_eq_true', Bool.not_eq_false', Bool.not_eq_true, Bool.not_eq_false, Option.isNone_none, Option.isNone_some, Option.isSome_none, Option.isSome_some, ne_eq, Decidable.not_not] at hc32
                                                     refine WC.seq ?_
                                                     refine WC.region ?_
                                                     refine WL.val rfl rfl rfl rfl (r_assign rfl ev_c) ?_
                                                     refine WL.nil ?_
                                                     refine WX.keep [(2, _)] ⟨rfl, trivial⟩ ?_
                                                     refine WX.next ?_
                                                     refine WC.ret ?_
                                                     refine WX.blockRet ?_
                                                     refine WX.thenRet ?_
                                                     refine WX.retE1 rfl rfl ?_
                                                     simp (disch := omega) only [if_pos, if_neg]
                                                     first | exact ⟨trivial, hU⟩ | exact ⟨rfl, hU⟩
                                                  · try (exfalso; first | (simp at hc32; done) | (simp only [decide_eq_true_eq, decide_eq_false_iff_not, Bool.not_eq_true', Bool.not_eq_false', Bool.not_eq_true, Bool.not_eq_false] at hc32; omega) | omega)
                                                    all_goals
                                                     try simp only [decide_eq_true_eq, decide_eq_false_iff_not, Bool.not_eq_true', Bool.not_eq_false', Bool.not_eq_true, Bool.not_eq_false, Option.isNone_none, Option.isNone_some, Option.isSome_none, Option.isSome_some, ne_eq, Decidable.not_not] at hc32
                                                     refine WC.seq ?_
                                                     refine WC.seq ?_
                                                     refine WC.region ?_
                                                     refine WL.val rfl rfl rfl rfl (r_eql rfl (ev_t rfl) ev_c) ?_
                                                     refine WL.val rfl rfl rfl rfl (r_assign rfl (ev_t rfl)) ?_
                                                     refine WL.nil ?_
                                                     refine WX.keep [(4, _), (68, _)] ⟨rfl, rfl, trivial⟩ ?_
                                                     refine WX.next ?_
                                                     refine WC.condT rfl (fun hc34 => ?_) (fun hc34 => ?_)
                                                     · try (exfalso; first | (simp at hc34; done) | (simp only [decide_eq_true_eq, decide_eq_false_iff_not, Bool.not_eq_true', Bool.not_eq_false', Bool.not_eq_true, Bool.not_eq_false] at hc34; omega) | omega)
                                                       all_goals
                                                        try simp only [decide_eq_true_eq, decide_eq_false_iff_not, Bool.not_eq_true', Bool.not_eq_false', Bool.not_eq_true, Bool.not_eq_false, Option.isNone_none, Option.isNone_some, Option.isSome_none, Option.isSome_some, ne_eq, Decidable.not_not] at hc34
                                                        refine WC.skip ?_
                                                        refine WX.next ?_
                                                        refine WC.cond_true rfl (ev_t rfl) ?_
                                                        refine WC.seq ?_
                                                        refine WC.region ?_
                                                        refine WL.val rfl rfl rfl rfl (r_assign rfl ev_c) ?_
                                                        refine WL.nil ?_
                                                        refine WX.keep [(2, _)] ⟨rfl, trivial⟩ ?_
                                                        refine WX.next ?_
                                                        refine WC.ret ?_
                                                        refine WX.blockRet ?_
                                                        refine WX.thenRet ?_
                                                        refine WX.retE1 rfl rfl ?_
                                                        simp (disch := omega) only [if_pos, if_neg]
                                                        first | exact ⟨trivial, hU⟩ | exact ⟨rfl, hU⟩
                                                     · try (exfalso; first | (simp at hc34; done) | (simp only [decide_eq_true_eq, decide_eq_false_iff_not, Bool.not_eq_true', Bool.not_eq_false', Bool.not_eq_true, Bool.not_eq_false] at hc34; omega) | omega)
                                                       all_goals
                                                        try simp only [decide_eq_true_eq, decide_eq_false_iff_not, Bool.not_eq_true', Bool.not_eq_false', Bool.not_eq_true, Bool.not_eq_false, Option.isNone_none, Option.isNone_some, Option.isSome_none, Option.isSome_some, ne_eq, Decidable.not_not] at hc34
                                                        refine WC.seq ?_
                                                        refine WC.region ?_
                                                        refine WL.val rfl rfl rfl rfl (r_eql rfl (ev_t rfl) ev_c) ?_
                                                        refine WL.val rfl rfl rfl rfl (r_assign rfl (ev_t rfl)) ?_
                                                        refine WL.nil ?_
                                                        refine WX.keep [(4, _), (68, _)] ⟨rfl, rfl, trivial⟩ ?_
                                                        refine WX.next ?_
                                                        refine WC.condT rfl (fun hc35 => ?_) (fun hc35 => ?_)
                                                        · try (exfalso; first | (simp at hc35; done) | (simp only [decide_eq_true_eq, decide_eq_false_iff_not, Bool.not_eq_true', Bool.not_eq_false', Bool.not_eq_true, Bool.not_eq_false] at hc35; omega) | omega)
                                                          all_goals
                                                           try simp only [decide_eq_true_eq, decide_eq_false_iff_not, Bool.not_eq_true', Bool.not_eq_false', Bool.not_eq_true, Bool.not_eq_false, Option.isNone_none, Option.isNone_some, Option.isSome_none, Option.isSome_some, ne_eq, Decidable.not_not] at hc35
                                                           refine WC.skip ?_
                                                           refine WX.next ?_
                                                           refine WC.cond_true rfl (ev_t rfl) ?_
                                                           refine WC.seq ?_
                                                           refine WC.region ?_
                                                           refine WL.val rfl rfl rfl rfl (r_assign rfl ev_c) ?_
                                                           refine WL.nil ?_
                                                           refine WX.keep [(2, _)] ⟨rfl, trivial⟩ ?_
                                                           refine WX.next ?_
                                                           refine WC.ret ?_
                                                           refine WX.blockRet ?_
                                                           refine WX.thenRet ?_
                                                           refine WX.retE1 rfl rfl ?_
                                                           simp (disch := omega) only [if_pos, if_neg]
                                                           first | exact ⟨trivial, hU⟩ | exact ⟨rfl, hU⟩
                                                        · try (exfalso; first | (simp at hc35; done) | (simp only [decide_eq_true_eq, decide_eq_false_iff_not, Bool.not_eq_true', Bool.not_eq_false', Bool.not_eq_true, Bool.not_eq_false] at hc35; omega) | omega)
                                                          all_goals
                                                           try simp only [decide_eq_true_eq, decide_eq_false_iff_not, Bool.not_eq_true', Bool.not_eq_false', Bool.not_eq_true, Bool.not_eq_false, Option.isNone_none, Option.isNone_some, Option.isSome_none, Option.isSome_some, ne_eq, Decidable.not_not] at hc35
                                                           refine WC.seq ?_
                                                           refine WC.region ?_
                                                           refine WL.val rfl rfl rfl rfl (r_eql rfl (ev_t rfl) ev_c) ?_
                                                           refine WL.val rfl rfl rfl rfl (r_assign rfl (ev_t rfl)) ?_
                                                           refine WL.nil ?_
                                                           refine WX.keep [(4, _), (68, _)] ⟨rfl, rfl, trivial⟩ ?_
                                                           refine WX.next ?_
                                                           refine WC.condT rfl (fun hc36 => ?_) (fun hc36 => ?_)
                                                           · try (exfalso; first | (simp at hc36; done) | (simp only [decide_eq_true_eq, decide_eq_false_iff_not, Bool.not_eq_true', Bool.not_eq_false', Bool.not_eq_true, Bool.not_eq_false] at hc36; omega) | omega)
                                                             all_goals
                                                              try simp only [decide_eq_true_eq, decide_eq_false_iff_not, Bool.not_eq_true', Bool.not_eq_false', Bool.not_eq_true, Bool.not_eq_false, Option.isNone_none, Option.isNone_some, Option.isSome_none, Option.isSome_some, ne_eq, Decidable.not_not] at hc36
                                                              refine WC.skip ?_
                                                              refine WX.next ?_
                                                              refine WC.cond_true rfl (ev_t rfl) ?_
                                                              refine WC.seq ?_
                                                              refine WC.region ?_
                                                              refine WL.val rfl rfl rfl rfl (r_assign rfl ev_c) ?_
                                                              refine WL.nil ?_
                                                              refine WX.keep [(2, _)] ⟨rfl, trivial⟩ ?_
                                                              refine WX.next ?_
                                                              refine WC.ret ?_
                                                              refine WX.blockRet ?_
                                                              refine WX.thenRet ?_
                                                              refine WX.retE1 rfl rfl ?_
                                                              simp (disch := omega) only [if_pos, if_neg]
                                                              first | exact ⟨trivial, hU⟩ | exact ⟨rfl, hU⟩
                                                           · try (exfalso; first | (simp at hc36; done) | (simp only [decide_eq_true_eq, decide_eq_false_iff_not, Bool.not_eq_true', Bool.not_eq_false', Bool.not_eq_true, Bool.not_eq_false] at hc36; omega) | omega)
                                                             all_goals
                                                              try simp only [decide_eq_true_eq, decide_eq_false_iff_not, Bool.not_eq_true', Bool.not_eq_false', Bool.not_eq_true, Bool.not_eq_false, Option.isNone_none, Option.isNone_some, Option.isSome_none, Option.isSome_some, ne_eq, Decidable.not_not] at hc36
                                                              refine WC.seq ?_
                                                              refine WC.region ?_
                                                              refine WL.val rfl rfl rfl rfl (r_eql rfl (ev_t rfl) ev_c) ?_
                                                              refine WL.val rfl rfl rfl rfl (r_assign rfl (ev_t rfl)) ?_
                                                              refine WL.nil ?_
                                                              refine WX.keep [(4, _), (68, _)] ⟨rfl, rfl, trivial⟩ ?_
                                                              refine WX.next ?_
                                                              refine WC.condT rfl (fun hc37 => ?_) (fun hc37 => ?_)
                                                              · try (exfalso; first | (simp at hc37; done) | (simp only [decide_eq_true_eq, decide_eq_false_iff_not, Bool.not_eq_true', Bool.not_eq_false', Bool.not_eq_true, Bool.not_eq_false] at hc37; omega) | omega)
                                                                all_goals
                                                                 try simp only [decide_eq_true_eq, decide_eq_false_iff_not, Bool.not_eq_true', Bool.not_eq_false', Bool.not_eq_true, Bool.not_eq_false, Option.isNone_none, Option.isNone_some, Option.isSome_none, Option.isSome_some, ne_eq, Decidable.not_not] at hc37
                                                                 refine WC.skip ?_
                                                                 refine WX.next ?_
                                                                 refine WC.cond_true rfl (ev_t rfl) ?_
                                                                 refine WC.seq ?_
                                                                 refine WC.region ?_
                                                                 refine WL.val rfl rfl rfl rfl (r_assign rfl ev_c) ?_
                                                                 refine WL.nil ?_
                                                                 refine WX.keep [(2, _)] ⟨rfl, trivial⟩ ?_
                                                                 refine WX.next ?_
                                                                 refine WC.ret ?_
                                                                 refine WX.blockRet ?_
                                                                 refine WX.thenRet ?_
                                                                 refine WX.retE1 rfl rfl ?_
                                                                 simp (disch := omega) only [if_pos, if_neg]
                                                                 first | exact ⟨trivial, hU⟩ | exact ⟨rfl, hU⟩
                                                              · try (exfalso; first | (simp at hc37; done) | (simp only [decide_eq_true_eq, decide_eq_false_iff_not, Bool.not_eq_true', Bool.not_eq_false', Bool.not_eq_true, Bool.not_eq_false] at hc37; omega) | omega)
                                                                all_goals
                                                                 try simp only [decide_eq_true_eq, decide_eq_false_iff_not, Bool.not_eq_true', Bool.not_eq_false', Bool.not_eq_true, Bool.not_eq_false, Option.isNone_none, Option.isNone_some, Option.isSome_none, Option.isSome_some, ne_eq, Decidable.not_not] at hc37
                                                                 refine WC.seq ?_
                                                                 refine WC.region ?_
                                                                 refine WL.val rfl rfl rfl rfl (r_eql rfl (ev_t rfl) ev_c) ?_
                                                                 refine WL.val rfl rfl rfl rfl (r_assign rfl (ev_t rfl)) ?_
                                                                 refine WL.nil ?_
                                                                 refine WX.keep [(4, _), (68, _)] ⟨rfl, rfl, trivial⟩ ?_
                                                                 refine WX.next ?_
                                                                 refine WC.condT rfl (fun hc38 => ?_) (fun hc38 => ?_)
                                                                 · try (exfalso; first | (simp at hc38; done) | (simp only [decide_eq_true_eq, decide_eq_false_iff_not, Bool.not_eq_true', Bool.not_eq_false', Bool.not_eq_true, Bool.not_eq_false] at hc38; omega) | omega)
                                                                   all_goals
                                                                    try simp only [decide_eq_true_eq, decide_eq_false_iff_not, Bool.not_eq_true', Bool.not_eq_false', Bool.not_eq_true, Bool.not_eq_false, Option.isNone_none, Option.isNone_some, Option.isSome_none, Option.isSome_some, ne_eq, Decidable.not_not] at hc38
                                                                    refine WC.skip ?_
                                                                    refine WX.next ?_
                                                                    refine WC.cond_true rfl (ev_t rfl) ?_
                                                                    refine WC.seq ?_
                                                                    refine WC.region ?_
                                                                    refine WL.val rfl rfl rfl rfl (r_assign rfl ev_c) ?_
                                                                    refine WL.nil ?_
                                                                    refine WX.keep [(2, _)] ⟨rfl, trivial⟩ ?_
                                                                    refine WX.next ?_
                                                                    refine WC.ret ?_
                                                                    refine WX.blockRet ?_
                                                                    refine WX.thenRet ?_
                                                                    refine WX.retE1 rfl rfl ?_
                                                                    simp (disch := omega) only [if_pos, if_neg]
                                                                    first | exact ⟨trivial, hU⟩ | exact ⟨rfl, hU⟩
                                                                 · try (exfalso; first | (simp at hc38; done) | (simp only [decide_eq_true_eq, decide_eq_false_iff_not, Bool.not_eq_true', Bool.not_eq_false', Bool.not_eq_true, Bool.not_eq_false] at hc38; omega) | omega)
                                                                   all_goals
                                                                    try simp only [decide_eq_true_eq, decide_eq_false_iff_not, Bool.not_eq_true', Bool.not_eq_false', Bool.not_eq_true, Bool.not_eq_false, Option.isNone_none, Option.isNone_some, Option.isSome_none, Option.isSome_some, ne_eq, Decidable.not_not] at hc38
                                                                    refine WC.seq ?_
                                                                    refine WC.region ?_
                                                                    refine WL.val rfl rfl rfl rfl (r_eql rfl (ev_t rfl) ev_c) ?_
                                                                    refine WL.val rfl rfl rfl rfl (r_assign rfl (ev_t rfl)) ?_
                                                                    refine WL.nil ?_
                                                                    refine WX.keep [(4, _), (68, _)] ⟨rfl, rfl, trivial⟩ ?_
                                                                    refine WX.next ?_
                                                                    refine WC.condT rfl (fun hc39 => ?_) (fun hc39 => ?_)
                                                                    · try (exfalso; first | (simp at hc39; done) | (simp only [decide_eq_true_eq, decide_eq_false_iff_not, Bool.not_eq_true', Bool.not_eq_false', Bool.not_eq_true, Bool.not_eq_false] at hc39; omega) | omega)
                                                                      all_goals
                                                                       try simp only [decide_eq_true_eq, decide_eq_false_iff_not, Bool.not_eq_true', Bool.not_eq_false', Bool.not_eq_true, Bool.not_eq_false, Option.isNone_none, Option.isNone_some, Option.isSome_none, Option.isSome_some, ne_eq, Decidable.not_not] at hc39
                                                                       refine WC.skip ?_
                                                                       refine WX.next ?_
                                                                       refine WC.cond_true rfl (ev_t rfl) ?_
                                                                       refine WC.seq ?_
                                                                       refine WC.region ?_
                                                                       refine WL.val rfl rfl rfl rfl (r_assign rfl ev_c) ?_
                                                                       refine WL.nil ?_
                                                                       refine WX.keep [(2, _)] ⟨rfl, trivial⟩ ?_
                                                                       refine WX.next ?_
                                                                       refine WC.ret ?_
                                                                       refine WX.blockRet ?_
                                                                       refine WX.thenRet ?_
                                                                       refine WX.retE1 rfl rfl ?_
                                                                       simp (disch := omega) only [if_pos, if_neg]
                                                                       first | exact ⟨trivial, hU⟩ | exact ⟨rfl, hU⟩
                                                                    · try (exfalso; first | (simp at hc39; done) | (simp only [decide_eq_true_eq, decide_eq_false_iff_not, Bool.not_eq_true', Bool.not_eq_false', Bool.not_eq_true, Bool.not_eq_false] at hc39; omega) | omega)
                                                                      all_goals
                                                                       try simp only [decide_eq_true_eq, decide_eq_false_iff_not, Bool.not_eq_true', Bool.not_eq_false', Bool.not_eq_true, Bool.not_eq_false, Option.isNone_none, Option.isNone_some, Option.isSome_none, Option.isSome_some, ne_eq, Decidable.not_not] at hc39
                                                                       refine WC.seq ?_
                                                                       refine WC.region ?_
                                                                       refine WL.val rfl rfl rfl rfl (r_eql rfl (ev_t rfl) ev_c) ?_
                                                                       refine WL.val rfl rfl rfl rfl (r_assign rfl (ev_t rfl)) ?_
                                                                       refine WL.nil ?_
                                                                       refine WX.keep [(4, _), (68, _)] ⟨rfl, rfl, trivial⟩ ?_
                                                                       refine WX.next ?_
                                                                       refine WC.condT rfl (fun hc40 => ?_) (fun hc40 => ?_)
                                                                       · try (exfalso; first | (simp at hc40; done) | (simp only [decide_eq_true_eq, decide_eq_false_iff_not, Bool.not_eq_true', Bool.not_eq_false', Bool.not_eq_true, Bool.not_eq_false] at hc40; omega) | omega)
                                                                         all_goals
                                                                          try simp only [decide_eq_true_eq, decide_eq_false_iff_not, Bool.not_eq_true', Bool.not_eq_false', Bool.not_eq_true, Bool.not_eq_false, Option.isNone_none, Option.isNone_some, Option.isSome_none, Option.isSome_some, ne_eq, Decidable.not_not] at hc40
                                                                          refine WC.skip ?_
                                                                          refine WX.next ?_
                                                                          refine WC.cond_true rfl (ev_t rfl) ?_
                                                                          refine WC.seq ?_
                                                                          refine WC.region ?_
                                                                          refine WL.val rfl rfl rfl rfl (r_assign rfl ev_c) ?_
                                                                          refine WL.nil ?_
                                                                          refine WX.keep [(2, _)] ⟨rfl, trivial⟩ ?_
                                                                          refine WX.next ?_
                                                                          refine WC.ret ?_
                                                                          refine WX.blockRet ?_
                                                                          refine WX.thenRet ?_
                                                                          refine WX.retE1 rfl rfl ?_
                                                                          simp (disch := omega) only [if_pos, if_neg]
                                                                          first | exact ⟨trivial, hU⟩ | exact ⟨rfl, hU⟩
                                                                       · try (exfalso; first | (simp at hc40; done) | (simp only [decide_eq_true_eq, decide_eq_false_iff_not, Bool.not_eq_true', Bool.not_eq_false', Bool.not_eq_true, Bool.not_eq_false] at hc40; omega) | omega)
                                                                         all_goals
                                                                          try simp only [decide_eq_true_eq, decide_eq_false_iff_not, Bool.not_eq_true', Bool.not_eq_false', Bool.not_eq_true, Bool.not_eq_false, Option.isNone_none, Option.isNone_some, Option.isSome_none, Option.isSome_some, ne_eq, Decidable.not_not] at hc40
                                                                          refine WC.seq ?_
                                                                          refine WC.region ?_
                                                                          refine WL.val rfl rfl rfl rfl (r_eql rfl (ev_t rfl) ev_c) ?_
                                                                          refine WL.val rfl rfl rfl rfl (r_assign rfl (ev_t rfl)) ?_
                                                                          refine WL.nil ?_
                                                                          refine WX.keep [(4, _), (68, _)] ⟨rfl, rfl, trivial⟩ ?_
                                                                          refine WX.next ?_
                                                                          refine WC.condT rfl (fun hc41 => ?_) (fun hc41 => ?_)
                                                                          · try (exfalso; first | (simp at hc41; done) | (simp only [decide_eq_true_eq, decide_eq_false_iff_not, Bool.not_eq_true', Bool.not_eq_false', Bool.not_eq_true, Bool.not_eq_false] at hc41; omega) | omega)
                                                                            all_goals
                                                                             try simp only [decide_eq_true_eq, decide_eq_false_iff_not, Bool.not_eq_true', Bool.not_eq_false', Bool.not_eq_true, Bool.not_eq_false, Option.isNone_none, Option.isNone_some, Option.isSome_none, Option.isSome_some, ne_eq, Decidable.not_not] at hc41
                                                                             refine WC.skip ?_
                                                                             refine WX.next ?_
                                                                             refine WC.cond_true rfl (ev_t rfl) ?_
                                                                             refine WC.seq ?_
                                                                             refine WC.region ?_
                                                                             refine WL.val rfl rfl rfl rfl (r_assign rfl ev_c) ?_
                                                                             refine WL.nil ?_
                                                                             refine WX.keep [(2, _)] ⟨rfl, trivial⟩ ?_
                                                                             refine WX.next ?_
                                                                             refine WC.ret ?_
                                                                             refine WX.blockRet ?_
                                                                             refine WX.thenRet ?_
                                                                             refine WX.retE1 rfl rfl ?_
                                                                             simp (disch := omega) only [if_pos, if_neg]
                                                                             first | exact ⟨trivial, hU⟩ | exact ⟨rfl, hU⟩
                                                                          · try (exfalso; first | (simp at hc41; done) | (simp only [decide_eq_true_eq, decide_eq_false_iff_not, Bool.not_eq_true', Bool.not_eq_false', Bool.not_eq_true, Bool.not_eq_false] at hc41; omega) | omega)
                                                                            all_goals
                                                                             try simp only [decide_eq_true_eq, decide_eq_false_iff_not, Bool.not_eq_true', Bool.not_eq_false', Bool.not_eq_true, Bool.not_eq_false, Option.isNone_none, Option.isNone_some, Option.isSome_none, Option.isSome_some, ne_eq, Decidable.not_not] at hc41
                                                                             refine WC.seq ?_
                                                                             refine WC.region ?_
                                                                             refine WL.val rfl rfl rfl rfl (r_eql rfl (ev_t rfl) ev_c) ?_
                                                                             refine WL.val rfl rfl rfl rfl (r_assign rfl (ev_t rfl)) ?_
                                                                             refine WL.nil ?_
                                                                             refine WX.keep [(4, _), (68, _)] ⟨rfl, rfl, trivial⟩ ?_
                                                                             refine WX.next ?_
                                                                             refine WC.condT rfl (fun hc42 => ?_) (fun hc42 => ?_)
                                                                             · try (exfalso; first | (simp at hc42; done) | (simp only [decide_eq_true_eq, decide_eq_false_iff_not, Bool.not_eq_true', Bool.not_eq_false', Bool.not_eq_true, Bool.not_eq_false] at hc42; omega) | omega)
                                                                               all_goals
                                                                                try simp only [decide_eq_true_eq, decide_eq_false_iff_not, Bool.not_eq_true', Bool.not_eq_false', Bool.not_eq_true, Bool.not_eq_false, Option.isNone_none, Option.isNone_some, Option.isSome_none, Option.isSome_some, ne_eq, Decidable.not_not] at hc42
                                                                                refine WC.skip ?_
                                                                                refine WX.next ?_
                                                                                refine WC.cond_true rfl (ev_t rfl) ?_
                                                                                refine WC.seq ?_
                                                                                refine WC.region ?_
                                                                                refine WL.val rfl rfl rfl rfl (r_assign rfl ev_c) ?_
                                                                                refine WL.nil ?_
                                                                                refine WX.keep [(2, _)] ⟨rfl, trivial⟩ ?_
                                                                                refine WX.next ?_
                                                                                refine WC.ret ?_
                                                                                refine WX.blockRet ?_
                                                                                refine WX.thenRet ?_
                                                                                refine WX.retE1 rfl rfl ?_
                                                                                simp (disch := omega) only [if_pos, if_neg]
                                                                                first | exact ⟨trivial, hU⟩ | exact ⟨rfl, hU⟩
                                                                             · try (exfalso; first | (simp at hc42; done) | (simp only [decide_eq_true_eq, decide_eq_false_iff_not, Bool.not_eq_true', Bool.not_eq_false', Bool.not_eq_true, Bool.not_eq_false] at hc42; omega) | omega)
                                                                               all_goals
                                                                                try simp only [decide_eq_true_eq, decide_eq_false_iff_not, Bool.not_eq_true', Bool.not_eq_false', Bool.not_eq_true, Bool.not_eq_false, Option.isNone_none, Option.isNone_some, Option.isSome_none, Option.isSome_some, ne_eq, Decidable.not_not] at hc42
                                                                                refine WC.region ?_
                                                                                refine WL.val rfl rfl rfl rfl (r_eql rfl (ev_t rfl) ev_c) ?_
                                                                                refine WL.val rfl rfl rfl rfl (r_assign rfl (ev_t rfl)) ?_
                                                                                refine WL.nil ?_
                                                                                refine WX.keep [(68, _)] ⟨rfl, trivial⟩ ?_
                                                                                refine WX.next ?_
                                                                                refine WC.condT rfl (fun hc43 => ?_) (fun hc43 => ?_)
                                                                                · try (exfalso; first | (simp at hc43; done) | (simp only [decide_eq_true_eq, decide_eq_false_iff_not, Bool.not_eq_true', Bool.not_eq_false', Bool.not_eq_true, Bool.not_eq_false] at hc43; omega) | omega)
                                                                                  all_goals
                                                                                   try simp only [decide_eq_true_eq, decide_eq_false_iff_not, Bool.not_eq_true', Bool.not_eq_false', Bool.not_eq_true, Bool.not_eq_false, Option.isNone_none, Option.isNone_some, Option.isSome_none, Option.isSome_some, ne_eq, Decidable.not_not] at hc43
                                                                                   refine WC.seq ?_
                                                                                   refine WC.region ?_
                                                                                   refine WL.val rfl rfl rfl rfl (r_assign rfl ev_c) ?_
                                                                                   refine WL.nil ?_
                                                                                   refine WX.keep [(2, _)] ⟨rfl, trivial⟩ ?_
                                                                                   refine WX.next ?_
                                                                                   refine WC.ret ?_
                                                                                   refine WX.blockRet ?_
                                                                                   refine WX.thenRet ?_
                                                                                   refine WX.retE1 rfl rfl ?_
                                                                                   simp (disch := omega) only [if_pos, if_neg]
                                                                                   first | exact ⟨trivial, hU⟩ | exact ⟨rfl, hU⟩
                                                                                · try (exfalso; first | (simp at hc43; done) | (simp only [decide_eq_true_eq, decide_eq_false_iff_not, Bool.not_eq_true', Bool.not_eq_false', Bool.not_eq_true, Bool.not_eq_false] at hc43; omega) | omega)
                                                                                  all_goals
                                                                                   try simp only [decide_eq_true_eq, decide_eq_false_iff_not, Bool.not_eq_true', Bool.not_eq_false', Bool.not_eq_true, Bool.not_eq_false, Option.isNone_none, Option.isNone_some, Option.isSome_none, Option.isSome_some, ne_eq, Decidable.not_not] at hc43
                                                                                   refine WC.skip ?_
                                                                                   refine WX.blockNormal ?_
                                                                                   refine WX.next ?_
                                                                                   refine WC.seq ?_
                                                                                   refine WC.region ?_
                                                                                   refine WL.val rfl rfl rfl rfl (r_assign rfl ev_c) ?_
                                                                                   refine WL.nil ?_
                                                                                   refine WX.keep [(2, _)] ⟨rfl, trivial⟩ ?_
                                                                                   refine WX.next ?_
                                                                                   refine WC.ret ?_
                                                                                   refine WX.retE1 rfl rfl ?_
                                                                                   simp (disch := omega) only [if_pos, if_neg]
                                                                                   first | exact ⟨trivial, hU⟩ | exact ⟨rfl, hU⟩
set_option maxHeartbeats 2000000 in
theorem leaves_ok {w : World} {i : In} (hi : i.ok) : Ret Tryd.prog 40 #[.agg (insC i).toArray] w fun u w' => u = .int .i64 (leavesR i) ∧ Upd No w w' := by
  obtain ⟨h1, h2, h3, h4⟩ := hi
  simp only [inK] at h2 h3
  obtain ⟨op, In_, Ia, Is⟩ := i
  simp only at h1 h2 h3 h4
  unfold insC leavesR
  simp only
  refine enterRet (vs := [_]) (N := 13) Tryd.func40 rfl rfl rfl ?_
  have hU := Upd.refl No w
  refine WC.keep [(0, _)] ⟨rfl, trivial⟩ ?_
  refine WC.seq ?_
  refine WC.region ?_
  refine WL.cons (SO.alloc rfl rfl rfl rfl (r_boxAgg rfl (ev_t rfl)) ?_)
  intro w1 hu1 hB1 hz1
  have hs1 := hu1.size
  replace hU := hU.transA hu1
  refine WL.val rfl rfl rfl rfl (r_assign rfl ev_c) ?_
  refine WL.nil ?_
  refine WX.keep [(1, _)] ⟨rfl, trivial⟩ ?_
  refine WX.next ?_
  refine WC.seq ?_
  refine WC.seq ?_
  refine WC.region ?_
  first | refine WL.val rfl rfl rfl rfl (r_field0 rfl (ev_t rfl) fld_55_0) ?_ | refine WL.val rfl rfl rfl rfl (r_fieldAt rfl (ev_t rfl) fld_55_0) ?_
  refine WL.val rfl rfl rfl rfl (r_load rfl (ev_t rfl) flat_5 (Blk.cell hB1 rfl)) ?_
  refine WL.nil ?_
  refine WX.keep [(4, _)] ⟨rfl, trivial⟩ ?_
  refine WX.next ?_
  refine WC.block ?_
  refine WC.seq ?_
  refine WC.seq ?_
  refine WC.region ?_
  refine WL.val rfl rfl rfl rfl (r_eql rfl (ev_t rfl) ev_c) ?_
  refine WL.val rfl rfl rfl rfl (r_assign rfl (ev_t rfl)) ?_
  refine WL.nil ?_
  refine WX.keep [(4, _), (5, _)] ⟨rfl, rfl, trivial⟩ ?_
  refine WX.next ?_
  refine WC.condT rfl (fun hc2 => ?_) (fun hc2 => ?_)
  · try (exfalso; first | (simp at hc2; done) | (simp only [decide_eq_true_eq, decide_eq_false_iff_not, Bool.not_eq_true', Bool.not_eq_false', Bool.not_eq_true, Bool.not_eq_false] at hc2; omega) | omega)
    all_goals
     try simp only [decide_eq_true_eq, decide_eq_false_iff_not, Bool.not_eq_true', Bool.not_eq_false', Bool.not_eq_true, Bool.not_eq_false, Option.isNone_none, Option.isNone_some, Option.isSome_none, Option.isSome_some, ne_eq, Decidable.not_not] at hc2
     refine WC.skip ?_
     refine WX.next ?_
     refine WC.cond_true rfl (ev_t rfl) ?_
     refine WC.seq ?_
     refine WC.region ?_
     refine WL.val rfl rfl rfl rfl (r_assign rfl ev_c) ?_
     refine WL.nil ?_
     refine WX.keep [(2, _)] ⟨rfl, trivial⟩ ?_
     refine WX.next ?_
     refine WC.ret ?_
     refine WX.blockRet ?_
     refine WX.thenRet ?_
     refine WX.retE1 rfl rfl ?_
     simp (disch := omega) only [if_pos, if_neg]
     first | exact ⟨trivial, hU⟩ | exact ⟨rfl, hU⟩
  · try (exfalso; first | (simp at hc2; done) | (simp only [decide_eq_true_eq, decide_eq_false_iff_not, Bool.not_eq_true', Bool.not_eq_false', Bool.not_eq_true, Bool.not_eq_false] at hc2; omega) | omega)
    all_goals
     try simp only [decide_eq_true_eq, decide_eq_false_iff_not, Bool.not_eq_true', Bool.not_eq_false', Bool.not_eq_true, Bool.not_eq_false, Option.isNone_none, Option.isNone_some, Option.isSome_none, Option.isSome_some, ne_eq, Decidable.not_not] at hc2
     refine WC.seq ?_
     refine WC.region ?_
     refine WL.val rfl rfl rfl rfl (r_eql rfl (ev_t rfl) ev_c) ?_
     refine WL.val rfl rfl rfl rfl (r_assign rfl (ev_t rfl)) ?_
     refine WL.nil ?_
     refine WX.keep [(4, _), (5, _)] ⟨rfl, rfl, trivial⟩ ?_
     refine WX.next ?_
     refine WC.condT rfl (fun hc3 => ?_) (fun hc3 => ?_)
     · try (exfalso; first | (simp at hc3; done) | (simp only [decide_eq_true_eq, decide_eq_false_iff_not, Bool.not_eq_true', Bool.not_eq_false', Bool.not_eq_true, Bool.not_eq_false] at hc3; omega) | omega)
       all_goals
        try simp only [decide_eq_true_eq, decide_eq_false_iff_not, Bool.not_eq_true', Bool.not_eq_false', Bool.not_eq_true, Bool.not_eq_false, Option.isNone_none, Option.isNone_some, Option.isSome_none, Option.isSome_some, ne_eq, Decidable.not_not] at hc3
        refine WC.skip ?_
        refine WX.next ?_
        refine WC.cond_true rfl (ev_t rfl) ?_
        refine WC.seq ?_
        refine WC.region ?_
        refine WL.val rfl rfl rfl rfl (r_assign rfl ev_c) ?_
        refine WL.nil ?_
        refine WX.keep [(2, _)] ⟨rfl, trivial⟩ ?_
        refine WX.next ?_
        refine WC.ret ?_
        refine WX.blockRet ?_
        refine WX.thenRet ?_
        refine WX.retE1 rfl rfl ?_
        simp (disch := omega) only [if_pos, if_neg]
        first | exact ⟨trivial, hU⟩ | exact ⟨rfl, hU⟩
     · try (exfalso; first | (simp at hc3; done) | (simp only [decide_eq_true_eq, decide_eq_false_iff_not, Bool.not_eq_true', Bool.not_eq_false', Bool.not_eq_true, Bool.not_eq_false] at hc3; omega) | omega)
       all_goals
        try simp only [decide_eq_true_eq, decide_eq_false_iff_not, Bool.not_eq_true', Bool.not_eq_false', Bool.not_eq_true, Bool.not_eq_false, Option.isNone_none, Option.isNone_some, Option.isSome_none, Option.isSome_some, ne_eq, Decidable.not_not] at hc3
        refine WC.seq ?_
        refine WC.region ?_
        refine WL.val rfl rfl rfl rfl (r_eql rfl (ev_t rfl) ev_c) ?_
        refine WL.val rfl rfl rfl rfl (r_assign rfl (ev_t rfl)) ?_
        refine WL.nil ?_
        refine WX.keep [(4, _), (5, _)] ⟨rfl, rfl, trivial⟩ ?_
        refine WX.next ?_
        refine WC.condT rfl (fun hc4 => ?_) (fun hc4 => ?_)
        · try (exfalso; first | (simp at hc4; done) | (simp only [decide_eq_true_eq, decide_eq_false_iff_not, Bool.not_eq_true', Bool.not_eq_false', Bool.not_eq_true, Bool.not_eq_false] at hc4; omega) | omega)
          all_goals
           try simp only [decide_eq_true_eq, decide_eq_false_iff_not, Bool.not_eq_true', Bool.not_eq_false', Bool.not_eq_true, Bool.not_eq_false, Option.isNone_none, Option.isNone_some, Option.isSome_none, Option.isSome_some, ne_eq, Decidable.not_not] at hc4
           refine WC.skip ?_
           refine WX.next ?_
           refine WC.cond_true rfl (ev_t rfl) ?_
           refine WC.seq ?_
           refine WC.region ?_
           refine WL.val rfl rfl rfl rfl (r_assign rfl ev_c) ?_
           refine WL.nil ?_
           refine WX.keep [(2, _)] ⟨rfl, trivial⟩ ?_
           refine WX.next ?_
           refine WC.ret ?_
           refine WX.blockRet ?_
           refine WX.thenRet ?_
           refine WX.retE1 rfl rfl ?_
           simp (disch := omega) only [if_pos, if_neg]
           first | exact ⟨trivial, hU⟩ | exact ⟨rfl, hU⟩
        · try (exfalso; first | (simp at hc4; done) | (simp only [decide_eq_true_eq, decide_eq_false_iff_not, Bool.not_eq_true', Bool.not_eq_false', Bool.not_eq_true, Bool.not_eq_false] at hc4; omega) | omega)
          all_goals
           try simp only [decide_eq_true_eq, decide_eq_false_iff_not, Bool.not_eq_true', Bool.not_eq_false', Bool.not_eq_true, Bool.not_eq_false, Option.isNone_none, Option.isNone_some, Option.isSome_none, Option.isSome_some, ne_eq, Decidable.not_not] at hc4
           refine WC.seq ?_
           refine WC.region ?_
           refine WL.val rfl rfl rfl rfl (r_eql rfl (ev_t rfl) ev_c) ?_
           refine WL.val rfl rfl rfl rfl (r_assign rfl (ev_t rfl)) ?_
           refine WL.nil ?_
           refine WX.keep [(4, _), (5, _)] ⟨rfl, rfl, trivial⟩ ?_
           refine WX.next ?_
           refine WC.condT rfl (fun hc5 => ?_) (fun hc5 => ?_)
           · try (exfalso; first | (simp at hc5; done) | (simp only [decide_eq_true_eq, decide_eq_false_iff_not, Bool.not_eq_true', Bool.not_eq_false', Bool.not_eq_true, Bool.not_eq_false] at hc5; omega) | omega)
             all_goals
              try simp only [decide_eq_true_eq, decide_eq_false_iff_not, Bool.not_eq_true', Bool.not_eq_false', Bool.not_eq_true, Bool.not_eq_false, Option.isNone_none, Option.isNone_some, Option.isSome_none, Option.isSome_some, ne_eq, Decidable.not_not] at hc5
              refine WC.skip ?_
              refine WX.next ?_
              refine WC.cond_true rfl (ev_t rfl) ?_
              refine WC.seq ?_
              refine WC.region ?_
              refine WL.val rfl rfl rfl rfl (r_assign rfl ev_c) ?_
              refine WL.nil ?_
              refine WX.keep [(2, _)] ⟨rfl, trivial⟩ ?_
              refine WX.next ?_
              refine WC.ret ?_
              refine WX.blockRet ?_
              refine WX.thenRet ?_
              refine WX.retE1 rfl rfl ?_
              simp (disch := omega) only [if_pos, if_neg]
              first | exact ⟨trivial, hU⟩ | exact ⟨rfl, hU⟩
           · try (exfalso; first | (simp at hc5; done) | (simp only [decide_eq_true_eq, decide_eq_false_iff_not, Bool.not_eq_true', Bool.not_eq_false', Bool.not_eq_true, Bool.not_eq_false] at hc5; omega) | omega)
             all_goals
              try simp only [decide_eq_true_eq, decide_eq_false_iff_not, Bool.not_eq_true', Bool.not_eq_false', Bool.not_eq_true, Bool.not_eq_false, Option.isNone_none, Option.isNone_some, Option.isSome_none, Option.isSome_some, ne_eq, Decidable.not_not] at hc5
              refine WC.seq ?_
              refine WC.region ?_
              refine WL.val rfl rfl rfl rfl (r_eql rfl (ev_t rfl) ev_c) ?_
              refine WL.val rfl rfl rfl rfl (r_assign rfl (ev_t rfl)) ?_
              refine WL.nil ?_
              refine WX.keep [(4, _), (5, _)] ⟨rfl, rfl, trivial⟩ ?_
              refine WX.next ?_
              refine WC.condT rfl (fun hc6 => ?_) (fun hc6 => ?_)
              · try (exfalso; first | (simp at hc6; done) | (simp only [decide_eq_true_eq, decide_eq_false_iff_not, Bool.not_eq_true', Bool.not_eq_false', Bool.not_eq_true, Bool.not_eq_false] at hc6; omega) | omega)
                all_goals
                 try simp only [decide_eq_true_eq, decide_eq_false_iff_not, Bool.not_eq_true', Bool.not_eq_false', Bool.not_eq_true, Bool.not_eq_false, Option.isNone_none, Option.isNone_some, Option.isSome_none, Option.isSome_some, ne_eq, Decidable.not_not] at hc6
                 refine WC.skip ?_
                 refine WX.next ?_
                 refine WC.cond_true rfl (ev_t rfl) ?_
                 refine WC.seq ?_
                 refine WC.region ?_
                 refine WL.val rfl rfl rfl rfl (r_assign rfl ev_c) ?_
                 refine WL.nil ?_
                 refine WX.keep [(2, _)] ⟨rfl, trivial⟩ ?_
                 refine WX.next ?_
                 refine WC.ret ?_
                 refine WX.blockRet ?_
                 refine WX.thenRet ?_
                 refine WX.retE1 rfl rfl ?_
                 simp (disch := omega) only [if_pos, if_neg]
                 first | exact ⟨trivial, hU⟩ | exact ⟨rfl, hU⟩
              · try (exfalso; first | (simp at hc6; done) | (simp only [decide_eq_true_eq, decide_eq_false_iff_not, Bool.not_eq_true', Bool.not_eq_false', Bool.not_eq_true, Bool.not_eq_false] at hc6; omega) | omega)
                all_goals
                 try simp only [decide_eq_true_eq, decide_eq_false_iff_not, Bool.not_eq_true', Bool.not_eq_false', Bool.not_eq_true, Bool.not_eq_false, Option.isNone_none, Option.isNone_some, Option.isSome_none, Option.isSome_some, ne_eq, Decidable.not_not] at hc6
                 refine WC.seq ?_
                 refine WC.region ?_
                 refine WL.val rfl rfl rfl rfl (r_eql rfl (ev_t rfl) ev_c) ?_
                 refine WL.val rfl rfl rfl rfl (r_assign rfl (ev_t rfl)) ?_
                 refine WL.nil ?_
                 refine WX.keep [(4, _), (5, _)] ⟨rfl, rfl, trivial⟩ ?_
                 refine WX.next ?_
                 refine WC.condT rfl (fun hc7 => ?_) (fun hc7 => ?_)
                 · try (exfalso; first | (simp at hc7; done) | (simp only [decide_eq_true_eq, decide_eq_false_iff_not, Bool.not_eq_true', Bool.not_eq_false', Bool.not_eq_true, Bool.not_eq_false] at hc7; omega) | omega)
                   all_goals
                    try simp only [decide_eq_true_eq, decide_eq_false_iff_not, Bool.not_eq_true', Bool.not_eq_false', Bool.not_eq_true, Bool.not_eq_false, Option.isNone_none, Option.isNone_some, Option.isSome_none, Option.isSome_some, ne_eq, Decidable.not_not] at hc7
                    refine WC.skip ?_
                    refine WX.next ?_
                    refine WC.cond_true rfl (ev_t rfl) ?_
                    refine WC.seq ?_
                    refine WC.region ?_
                    refine WL.val rfl rfl rfl rfl (r_assign rfl ev_c) ?_
                    refine WL.nil ?_
                    refine WX.keep [(2, _)] ⟨rfl, trivial⟩ ?_
                    refine WX.next ?_
                    refine WC.ret ?_
                    refine WX.blockRet ?_
                    refine WX.thenRet ?_
                    refine WX.retE1 rfl rfl ?_
                    simp (disch := omega) only [if_pos, if_neg]
                    first | exact ⟨trivial, hU⟩ | exact ⟨rfl, hU⟩
                 · try (exfalso; first | (simp at hc7; done) | (simp only [decide_eq_true_eq, decide_eq_false_iff_not, Bool.not_eq_true', Bool.not_eq_false', Bool.not_eq_true, Bool.not_eq_false] at hc7; omega) | omega)
                   all_goals
                    try simp only [decide_eq_true_eq, decide_eq_false_iff_not, Bool.not_eq_true', Bool.not_eq_false', Bool.not_eq_true, Bool.not_eq_false, Option.isNone_none, Option.isNone_some, Option.isSome_none, Option.isSome_some, ne_eq, Decidable.not_not] at hc7
                    refine WC.region ?_
                    refine WL.val rfl rfl rfl rfl (r_eql rfl (ev_t rfl) ev_c) ?_
                    refine WL.val rfl rfl rfl rfl (r_assign rfl (ev_t rfl)) ?_
                    refine WL.nil ?_
                    refine WX.keep [(5, _)] ⟨rfl, trivial⟩ ?_
                    refine WX.next ?_
                    refine WC.condT rfl (fun hc8 => ?_) (fun hc8 => ?_)
                    · try (exfalso; first | (simp at hc8; done) | (simp only [decide_eq_true_eq, decide_eq_false_iff_not, Bool.not_eq_true', Bool.not_eq_false', Bool.not_eq_true, Bool.not_eq_false] at hc8; omega) | omega)
                      all_goals
                       try simp only [decide_eq_true_eq, decide_eq_false_iff_not, Bool.not_eq_true', Bool.not_eq_false', Bool.not_eq_true, Bool.not_eq_false, Option.isNone_none, Option.isNone_some, Option.isSome_none, Option.isSome_some, ne_eq, Decidable.not_not] at hc8
                       refine WC.seq ?_
                       refine WC.region ?_
                       refine WL.val rfl rfl rfl rfl (r_assign rfl ev_c) ?_
                       refine WL.nil ?_
                       refine WX.keep [(2, _)] ⟨rfl, trivial⟩ ?_
                       refine WX.next ?_
                       refine WC.ret ?_
                       refine WX.blockRet ?_
                       refine WX.thenRet ?_
                       refine WX.retE1 rfl rfl ?_
                       simp (disch := omega) only [if_pos, if_neg]
                       first | exact ⟨trivial, hU⟩ | exact ⟨rfl, hU⟩
                    · try (exfalso; first | (simp at hc8; done) | (simp only [decide_eq_true_eq, decide_eq_false_iff_not, Bool.not_eq_true', Bool.not_eq_false', Bool.not_eq_true, Bool.not_eq_false] at hc8; omega) | omega)
                      all_goals
                       try simp only [decide_eq_true_eq, decide_eq_false_iff_not, Bool.not_eq_true', Bool.not_eq_false', Bool.not_eq_true, Bool.not_eq_false, Option.isNone_none, Option.isNone_some, Option.isSome_none, Option.isSome_some, ne_eq, Decidable.not_not] at hc8
                       refine WC.skip ?_
                       refine WX.blockNormal ?_
                       refine WX.next ?_
                       refine WC.seq ?_
                       refine WC.region ?_
                       refine WL.val rfl rfl rfl rfl (r_assign rfl ev_c) ?_
                       refine WL.nil ?_
                       refine WX.keep [(2, _)] ⟨rfl, trivial⟩ ?_
                       refine WX.next ?_
                       refine WC.ret ?_
                       refine WX.retE1 rfl rfl ?_
                       simp (disch := omega) only [if_pos, if_neg]
                       first | exact ⟨trivial, hU⟩ | exact ⟨rfl, hU⟩
set_option maxHeartbeats 4000000 in
theorem fineR_ok {w : World} {F : Fn} {A : Option Addr} {n c : Nat} {i : In} {at_ d t globs : Int} {H : Nat → Prop} {allv : Value} {all : List Fn} (hall : IsFs w H allv all) (hi : i.ok) (hd : inK .i64 d) (ht : inK .i64 t) (hF : inK .i64 F.caps) :
    Ret Tryd.prog 38 #[.agg #[.int .i64 F.caps, .slice A n c], .agg (insC i).toArray, .agg #[.int .i64 at_, .int .i64 d, .int .i64 t], allv, .int .i64 globs] w fun u w' => u = .bool (fineR F i d t all globs) ∧ Upd No w w' := by
  obtain ⟨V, hV, hVc, hVl⟩ := hall
  obtain ⟨Aa, ca, rfl, hca⟩ := hV.slice_form
  have hVm := hV.le
  have hVn : V.length = all.length := by rw [← hVl, List.length_map]
  have hio := hi
  obtain ⟨h1, h2, h3, h4⟩ := hi
  simp only [inK] at h2 h3 hd ht hF
  obtain ⟨tk, htk⟩ : ∃ tk, takesR i = tk := ⟨_, rfl⟩
  obtain ⟨op, In_, Ia, Is⟩ := i
  simp only at h1 h2 h3 h4
  obtain ⟨res, hres⟩ : ∃ res, fineR F ⟨op, In_, Ia, Is⟩ d t all globs = res := ⟨_, rfl⟩
  rw [hres]
  unfold fineR at hres
  rw [htk] at hres
  simp only at hres
  have hib : insC ⟨op, In_, Ia, Is⟩ = [.int .u8 (op : Int), .int .i64 In_, .int .i64 Ia, .string ⟨Is.toArray⟩] := rfl
  rw [hib]
  refine enterRet (vs := [_, _, _, _, _]) (N := 97) Tryd.func38 rfl rfl rfl ?_
  have hU := Upd.refl No w
  refine WC.keep [(0, _), (1, _), (2, _), (3, _), (4, _)] ⟨rfl, rfl, rfl, rfl, rfl, trivial⟩ ?_
  refine WC.seq ?_
  refine WC.region ?_
  refine WL.cons (SO.alloc rfl rfl rfl rfl (r_boxAgg rfl (ev_t rfl)) ?_)
  intro w1 hu1 hB1 hz1
  have hs1 := hu1.size
  replace hU := hU.transA hu1
  refine WL.cons (SO.alloc rfl rfl rfl rfl (r_boxAgg rfl (ev_t rfl)) ?_)
  intro w2 hu2 hB2 hz2
  have hs2 := hu2.size
  replace hU := hU.transA hu2
  replace hB1 := hB1.updA hu2
  refine WL.cons (SO.alloc rfl rfl rfl rfl (r_boxAgg rfl (ev_t rfl)) ?_)
  intro w3 hu3 hB3 hz3
  have hs3 := hu3.size
  replace hU := hU.transA hu3
  replace hB1 := hB1.updA hu3
  replace hB2 := hB2.updA hu3
  refine WL.val rfl rfl rfl rfl (r_assign rfl ev_c) ?_
  refine WL.nil ?_
  refine WX.keep [(3, _), (4, _), (5, _), (6, _), (7, _)] ⟨rfl, rfl, rfl, rfl, rfl, trivial⟩ ?_
  refine WX.next ?_
  refine WC.seq ?_
  refine WC.region ?_
  refine WL.val rfl rfl rfl rfl (r_loadAgg (vs := [_, _, _, _]) rfl (ev_t rfl) agg_55 size_55 (Blk.cellsL hB2)) ?_
  refine WL.cons (SO.call (takes_ok (i := ⟨op, In_, Ia, Is⟩) hio) rfl body_39 ⟨(ev_t rfl), trivial⟩ rfl rfl rfl rfl ?_)
  rw [htk]
  rintro v w4 ⟨rfl, hu4⟩
  have hs4 := hu4.size
  replace hU := hU.transA hu4
  replace hB1 := hB1.updA hu4
  replace hB2 := hB2.updA hu4
  replace hB3 := hB3.updA hu4
  refine WL.val rfl rfl rfl rfl (r_assign rfl (ev_t rfl)) ?_
  refine WL.nil ?_
  refine WX.keep [(3, _), (4, _), (5, _), (6, _), (7, _), (11, _)] ⟨rfl, rfl, rfl, rfl, rfl, rfl, trivial⟩ ?_
  refine WX.next ?_
  refine WC.seq ?_
  refine WC.seq ?_
  refine WC.region ?_
  refine WL.val rfl rfl rfl rfl (r_move rfl (ev_t rfl)) ?_
  refine WL.val rfl rfl rfl rfl (r_lss rfl (ev_t rfl) ev_c) ?_
  refine WL.val rfl rfl rfl rfl (r_move rfl (ev_t rfl)) ?_
  refine WL.cases 16 rfl (fun hb2_2 => ?_) (fun hb2_2 => ?_)
  · try (exfalso; first | (simp at hb2_2; done) | (simp only [decide_eq_true_eq, decide_eq_false_iff_not, Bool.not_eq_true', Bool.not_eq_false', Bool.not_eq_true, Bool.not_eq_false] at hb2_2; omega) | omega)
    all_goals
     try simp only [decide_eq_true_eq, decide_eq_false_iff_not, Bool.not_eq_true', Bool.not_eq_false', Bool.not_eq_true, Bool.not_eq_false, Option.isNone_none, Option.isNone_some, Option.isSome_none, Option.isSome_some, ne_eq, Decidable.not_not] at hb2_2
     refine WL.skip rfl rfl rfl ?_
     refine WL.skip rfl rfl rfl ?_
     refine WL.skip rfl rfl rfl ?_
     refine WL.skip rfl rfl rfl ?_
     refine WL.val rfl rfl rfl rfl (r_pickT rfl (ev_t rfl) ev_c) ?_
     refine WL.nil ?_
     refine WX.keep [(3, _), (4, _), (5, _), (6, _), (7, _), (21, _)] ⟨rfl, rfl, rfl, rfl, rfl, rfl, trivial⟩ ?_
     refine WX.next ?_
     refine WC.cond_true rfl (ev_t rfl) ?_
     refine WC.seq ?_
     refine WC.region ?_
     refine WL.val rfl rfl rfl rfl (r_assign rfl ev_c) ?_
     refine WL.nil ?_
     refine WX.keep [(10, _)] ⟨rfl, trivial⟩ ?_
     refine WX.next ?_
     refine WC.ret ?_
     refine WX.thenRet ?_
     refine WX.retE1 rfl rfl ?_
     refine ⟨?_, hU⟩
     simp (disch := omega) only [if_pos, if_neg] at hres
     subst hres
     congr 1
     try rw [Bool.eq_iff_iff]
     try simp only [Bool.and_eq_true, decide_eq_true_eq, Bool.false_eq_true, false_iff]
     try omega
  · try (exfalso; first | (simp at hb2_2; done) | (simp only [decide_eq_true_eq, decide_eq_false_iff_not, Bool.not_eq_true', Bool.not_eq_false', Bool.not_eq_true, Bool.not_eq_false] at hb2_2; omega) | omega)
    all_goals
     try simp only [decide_eq_true_eq, decide_eq_false_iff_not, Bool.not_eq_true', Bool.not_eq_false', Bool.not_eq_true, Bool.not_eq_false, Option.isNone_none, Option.isNone_some, Option.isSome_none, Option.isSome_some, ne_eq, Decidable.not_not] at hb2_2
     refine WL.val rfl rfl rfl rfl (r_move rfl (ev_t rfl)) ?_
     first | refine WL.val rfl rfl rfl rfl (r_field0 rfl (ev_t rfl) fld_75_1) ?_ | refine WL.val rfl rfl rfl rfl (r_fieldAt rfl (ev_t rfl) fld_75_1) ?_
     first | refine WL.val rfl rfl rfl rfl (r_load rfl (ev_t rfl) flat_3 (Blk.cell hB1 rfl)) ?_ | refine WL.val rfl rfl rfl rfl (r_load rfl (ev_t rfl) flat_3 (Blk.cell hB2 rfl)) ?_ | refine WL.val rfl rfl rfl rfl (r_load rfl (ev_t rfl) flat_3 (Blk.cell hB3 rfl)) ?_
     refine WL.val rfl rfl rfl rfl (r_geq rfl (ev_t rfl) (ev_t rfl)) ?_
     refine WL.val rfl rfl rfl rfl (r_pickF rfl (ev_t rfl) (ev_t rfl)) ?_
     refine WL.nil ?_
     refine WX.keep [(3, _), (4, _), (5, _), (6, _), (7, _), (21, _)] ⟨rfl, rfl, rfl, rfl, rfl, rfl, trivial⟩ ?_
     refine WX.next ?_
     refine WC.cond rfl (ev_t rfl) (fun hc2 => ?_) (fun hc2 => ?_)
     · try (exfalso; first | (simp at hc2; done) | (simp only [decide_eq_true_eq, decide_eq_false_iff_not, Bool.not_eq_true', Bool.not_eq_false', Bool.not_eq_true, Bool.not_eq_false] at hc2; omega) | omega)
       all_goals
        try simp only [decide_eq_true_eq, decide_eq_false_iff_not, Bool.not_eq_true', Bool.not_eq_false', Bool.not_eq_true, Bool.not_eq_false, Option.isNone_none, Option.isNone_some, Option.isSome_none, Option.isSome_some, ne_eq, Decidable.not_not] at hc2
        refine WC.seq ?_
        refine WC.region ?_
        refine WL.val rfl rfl rfl rfl (r_assign rfl ev_c) ?_
        refine WL.nil ?_
        refine WX.keep [(10, _)] ⟨rfl, trivial⟩ ?_
        refine WX.next ?_
        refine WC.ret ?_
        refine WX.thenRet ?_
        refine WX.retE1 rfl rfl ?_
        refine ⟨?_, hU⟩
        simp (disch := omega) only [if_pos, if_neg] at hres
        subst hres
        congr 1
        try rw [Bool.eq_iff_iff]
        try simp only [Bool.and_eq_true, decide_eq_true_eq, Bool.false_eq_true, false_iff]
        try omega
     · try (exfalso; first | (simp at hc2; done) | (simp only [decide_eq_true_eq, decide_eq_false_iff_not, Bool.not_eq_true', Bool.not_eq_false', Bool.not_eq_true, Bool.not_eq_false] at hc2; omega) | omega)
       all_goals
        try simp only [decide_eq_true_eq, decide_eq_false_iff_not, Bool.not_eq_true', Bool.not_eq_false', Bool.not_eq_true, Bool.not_eq_false, Option.isNone_none, Option.isNone_some, Option.isSome_none, Option.isSome_some, ne_eq, Decidable.not_not] at hc2
        refine WC.skip ?_
        refine WX.next ?_
        refine WC.seq ?_
        refine WC.seq ?_
        refine WC.region ?_
        first | refine WL.val rfl rfl rfl rfl (r_field0 rfl (ev_t rfl) fld_55_0) ?_ | refine WL.val rfl rfl rfl rfl (r_fieldAt rfl (ev_t rfl) fld_55_0) ?_
        first | refine WL.val rfl rfl rfl rfl (r_load rfl (ev_t rfl) flat_5 (Blk.cell hB1 rfl)) ?_ | refine WL.val rfl rfl rfl rfl (r_load rfl (ev_t rfl) flat_5 (Blk.cell hB2 rfl)) ?_ | refine WL.val rfl rfl rfl rfl (r_load rfl (ev_t rfl) flat_5 (Blk.cell hB3 rfl)) ?_
        refine WL.nil ?_
        refine WX.keep [(3, _), (4, _), (5, _), (6, _), (7, _), (23, _)] ⟨rfl, rfl, rfl, rfl, rfl, rfl, trivial⟩ ?_
        refine WX.next ?_
        refine WC.block ?_
        refine WC.seq ?_
        refine WC.region ?_
        refine WL.val rfl rfl rfl rfl (r_eql rfl (ev_t rfl) ev_c) ?_
        refine WL.val rfl rfl rfl rfl (r_assign rfl (ev_t rfl)) ?_
        refine WL.nil ?_
        refine WX.keep [(3, _), (4, _), (5, _), (6, _), (7, _), (23, _), (24, _)] ⟨rfl, rfl, rfl, rfl, rfl, rfl, rfl, trivial⟩ ?_
        refine WX.next ?_
        refine WC.cond rfl (ev_t rfl) (fun hc5 => ?_) (fun hc5 => ?_)
        · try (exfalso; first | (simp at hc5; done) | (simp only [decide_eq_true_eq, decide_eq_false_iff_not, Bool.not_eq_true', Bool.not_eq_false', Bool.not_eq_true, Bool.not_eq_false] at hc5; omega) | omega)
          all_goals
           try simp only [decide_eq_true_eq, decide_eq_false_iff_not, Bool.not_eq_true', Bool.not_eq_false', Bool.not_eq_true, Bool.not_eq_false, Option.isNone_none, Option.isNone_some, Option.isSome_none, Option.isSome_some, ne_eq, Decidable.not_not] at hc5
           refine WC.seq ?_
           refine WC.region ?_
           first | refine WL.val rfl rfl rfl rfl (r_field0 rfl (ev_t rfl) fld_55_1) ?_ | refine WL.val rfl rfl rfl rfl (r_fieldAt rfl (ev_t rfl) fld_55_1) ?_
           first | refine WL.val rfl rfl rfl rfl (r_load rfl (ev_t rfl) flat_2 (Blk.cell hB1 rfl)) ?_ | refine WL.val rfl rfl rfl rfl (r_load rfl (ev_t rfl) flat_2 (Blk.cell hB2 rfl)) ?_ | refine WL.val rfl rfl rfl rfl (r_load rfl (ev_t rfl) flat_2 (Blk.cell hB3 rfl)) ?_
           refine WL.val rfl rfl rfl rfl (r_geq rfl (ev_t rfl) ev_c) ?_
           refine WL.val rfl rfl rfl rfl (r_move rfl (ev_t rfl)) ?_
           refine WL.cases 29 rfl (fun hb6_3 => ?_) (fun hb6_3 => ?_)
           · try (exfalso; first | (simp at hb6_3; done) | (simp only [decide_eq_true_eq, decide_eq_false_iff_not, Bool.not_eq_true', Bool.not_eq_false', Bool.not_eq_true, Bool.not_eq_false] at hb6_3; omega) | omega)
             all_goals
              try simp only [decide_eq_true_eq, decide_eq_false_iff_not, Bool.not_eq_true', Bool.not_eq_false', Bool.not_eq_true, Bool.not_eq_false, Option.isNone_none, Option.isNone_some, Option.isSome_none, Option.isSome_some, ne_eq, Decidable.not_not] at hb6_3
              first | refine WL.val rfl rfl rfl rfl (r_field0 rfl (ev_t rfl) fld_55_1) ?_ | refine WL.val rfl rfl rfl rfl (r_fieldAt rfl (ev_t rfl) fld_55_1) ?_
              first | refine WL.val rfl rfl rfl rfl (r_load rfl (ev_t rfl) flat_2 (Blk.cell hB1 rfl)) ?_ | refine WL.val rfl rfl rfl rfl (r_load rfl (ev_t rfl) flat_2 (Blk.cell hB2 rfl)) ?_ | refine WL.val rfl rfl rfl rfl (r_load rfl (ev_t rfl) flat_2 (Blk.cell hB3 rfl)) ?_
              first | refine WL.val rfl rfl rfl rfl (r_field0 rfl (ev_t rfl) fld_75_1) ?_ | refine WL.val rfl rfl rfl rfl (r_fieldAt rfl (ev_t rfl) fld_75_1) ?_
              first | refine WL.val rfl rfl rfl rfl (r_load rfl (ev_t rfl) flat_3 (Blk.cell hB1 rfl)) ?_ | refine WL.val rfl rfl rfl rfl (r_load rfl (ev_t rfl) flat_3 (Blk.cell hB2 rfl)) ?_ | refine WL.val rfl rfl rfl rfl (r_load rfl (ev_t rfl) flat_3 (Blk.cell hB3 rfl)) ?_
              refine WL.val rfl rfl rfl rfl (r_lss rfl (ev_t rfl) (ev_t rfl)) ?_
              refine WL.val rfl rfl rfl rfl (r_pickT rfl (ev_t rfl) (ev_t rfl)) ?_
              refine WL.val rfl rfl rfl rfl (r_assign rfl (ev_t rfl)) ?_
              refine WL.nil ?_
              refine WX.keep [(10, _)] ⟨rfl, trivial⟩ ?_
              refine WX.next ?_
              refine WC.ret ?_
              refine WX.blockRet ?_
              refine WX.thenRet ?_
              refine WX.retE1 rfl rfl ?_
              refine ⟨?_, hU⟩
              simp (disch := omega) only [if_pos, if_neg] at hres
              subst hres
              congr 1
              try rw [Bool.eq_iff_iff]
              try simp only [Bool.and_eq_true, decide_eq_true_eq, Bool.false_eq_true, false_iff]
              try omega
           · try (exfalso; first | (simp at hb6_3; done) | (simp only [decide_eq_true_eq, decide_eq_false_iff_not, Bool.not_eq_true', Bool.not_eq_false', Bool.not_eq_true, Bool.not_eq_false] at hb6_3; omega) | omega)
             all_goals
              try simp only [decide_eq_true_eq, decide_eq_false_iff_not, Bool.not_eq_true', Bool.not_eq_false', Bool.not_eq_true, Bool.not_eq_false, Option.isNone_none, Option.isNone_some, Option.isSome_none, Option.isSome_some, ne_eq, Decidable.not_not] at hb6_3
              refine WL.skip rfl rfl rfl ?_
              refine WL.skip rfl rfl rfl ?_
              refine WL.skip rfl rfl rfl ?_
              refine WL.skip rfl rfl rfl ?_
              refine WL.skip rfl rfl rfl ?_
              refine WL.val rfl rfl rfl rfl (r_pickF rfl (ev_t rfl) ev_c) ?_
              refine WL.val rfl rfl rfl rfl (r_assign rfl (ev_t rfl)) ?_
              refine WL.nil ?_
              refine WX.keep [(10, _)] ⟨rfl, trivial⟩ ?_
              refine WX.next ?_
              refine WC.ret ?_
              refine WX.blockRet ?_
              refine WX.thenRet ?_
              refine WX.retE1 rfl rfl ?_
              refine ⟨?_, hU⟩
              simp (disch := omega) only [if_pos, if_neg] at hres
              subst hres
              congr 1
              try rw [Bool.eq_iff_iff]
              try simp only [Bool.and_eq_true, decide_eq_true_eq, Bool.false_eq_true, false_iff]
              try omega
        · try (exfalso; first | (simp at hc5; done) | (simp only [decide_eq_true_eq, decide_eq_false_iff_not, Bool.not_eq_true', Bool.not_eq_false', Bool.not_eq_true, Bool.not_eq_false] at hc5; omega) | omega)
          all_goals
           try simp only [decide_eq_true_eq, decide_eq_false_iff_not, Bool.not_eq_true', Bool.not_eq_false', Bool.not_eq_true, Bool.not_eq_false, Option.isNone_none, Option.isNone_some, Option.isSome_none, Option.isSome_some, ne_eq, Decidable.not_not] at hc5
           refine WC.seq ?_
           refine WC.region ?_
           refine WL.val rfl rfl rfl rfl (r_eql rfl (ev_t rfl) ev_c) ?_
           refine WL.val rfl rfl rfl rfl (r_assign rfl (ev_t rfl)) ?_
           refine WL.nil ?_
           refine WX.keep [(3, _), (4, _), (5, _), (6, _), (7, _), (23, _), (36, _)] ⟨rfl, rfl, rfl, rfl, rfl, rfl, rfl, trivial⟩ ?_
           refine WX.next ?_
           refine WC.cond rfl (ev_t rfl) (fun hc7 => ?_) (fun hc7 => ?_)
           · try (exfalso; first | (simp at hc7; done) | (simp only [decide_eq_true_eq, decide_eq_false_iff_not, Bool.not_eq_true', Bool.not_eq_false', Bool.not_eq_true, Bool.not_eq_false] at hc7; omega) | omega)
             all_goals
              try simp only [decide_eq_true_eq, decide_eq_false_iff_not, Bool.not_eq_true', Bool.not_eq_false', Bool.not_eq_true, Bool.not_eq_false, Option.isNone_none, Option.isNone_some, Option.isSome_none, Option.isSome_some, ne_eq, Decidable.not_not] at hc7
              refine WC.seq ?_
              refine WC.region ?_
              first | refine WL.val rfl rfl rfl rfl (r_field0 rfl (ev_t rfl) fld_55_1) ?_ | refine WL.val rfl rfl rfl rfl (r_fieldAt rfl (ev_t rfl) fld_55_1) ?_
              first | refine WL.val rfl rfl rfl rfl (r_load rfl (ev_t rfl) flat_2 (Blk.cell hB1 rfl)) ?_ | refine WL.val rfl rfl rfl rfl (r_load rfl (ev_t rfl) flat_2 (Blk.cell hB2 rfl)) ?_ | refine WL.val rfl rfl rfl rfl (r_load rfl (ev_t rfl) flat_2 (Blk.cell hB3 rfl)) ?_
              refine WL.val rfl rfl rfl rfl (r_geq rfl (ev_t rfl) ev_c) ?_
              refine WL.val rfl rfl rfl rfl (r_move rfl (ev_t rfl)) ?_
              refine WL.cases 41 rfl (fun hb8_3 => ?_) (fun hb8_3 => ?_)
              · try (exfalso; first | (simp at hb8_3; done) | (simp only [decide_eq_true_eq, decide_eq_false_iff_not, Bool.not_eq_true', Bool.not_eq_false', Bool.not_eq_true, Bool.not_eq_false] at hb8_3; omega) | omega)
                all_goals
                 try simp only [decide_eq_true_eq, decide_eq_false_iff_not, Bool.not_eq_true', Bool.not_eq_false', Bool.not_eq_true, Bool.not_eq_false, Option.isNone_none, Option.isNone_some, Option.isSome_none, Option.isSome_some, ne_eq, Decidable.not_not] at hb8_3
                 first | refine WL.val rfl rfl rfl rfl (r_field0 rfl (ev_t rfl) fld_55_1) ?_ | refine WL.val rfl rfl rfl rfl (r_fieldAt rfl (ev_t rfl) fld_55_1) ?_
                 first | refine WL.val rfl rfl rfl rfl (r_load rfl (ev_t rfl) flat_2 (Blk.cell hB1 rfl)) ?_ | refine WL.val rfl rfl rfl rfl (r_load rfl (ev_t rfl) flat_2 (Blk.cell hB2 rfl)) ?_ | refine WL.val rfl rfl rfl rfl (r_load rfl (ev_t rfl) flat_2 (Blk.cell hB3 rfl)) ?_
                 first | refine WL.val rfl rfl rfl rfl (r_field0 rfl (ev_t rfl) fld_54_0) ?_ | refine WL.val rfl rfl rfl rfl (r_fieldAt rfl (ev_t rfl) fld_54_0) ?_
                 first | refine WL.val rfl rfl rfl rfl (r_load rfl (ev_t rfl) flat_3 (Blk.cell hB1 rfl)) ?_ | refine WL.val rfl rfl rfl rfl (r_load rfl (ev_t rfl) flat_3 (Blk.cell hB2 rfl)) ?_ | refine WL.val rfl rfl rfl rfl (r_load rfl (ev_t rfl) flat_3 (Blk.cell hB3 rfl)) ?_
                 refine WL.val rfl rfl rfl rfl (r_lss rfl (ev_t rfl) (ev_t rfl)) ?_
                 refine WL.val rfl rfl rfl rfl (r_pickT rfl (ev_t rfl) (ev_t rfl)) ?_
                 refine WL.val rfl rfl rfl rfl (r_assign rfl (ev_t rfl)) ?_
                 refine WL.nil ?_
                 refine WX.keep [(10, _)] ⟨rfl, trivial⟩ ?_
                 refine WX.next ?_
                 refine WC.ret ?_
                 refine WX.blockRet ?_
                 refine WX.thenRet ?_
                 refine WX.retE1 rfl rfl ?_
                 refine ⟨?_, hU⟩
                 simp (disch := omega) only [if_pos, if_neg] at hres
                 subst hres
                 congr 1
                 try rw [Bool.eq_iff_iff]
                 try simp only [Bool.and_eq_true, decide_eq_true_eq, Bool.false_eq_true, false_iff]
                 try omega
              · try (exfalso; first | (simp at hb8_3; done) | (simp only [decide_eq_true_eq, decide_eq_false_iff_not, Bool.not_eq_true', Bool.not_eq_false', Bool.not_eq_true, Bool.not_eq_false] at hb8_3; omega) | omega)
                all_goals
                 try simp only [decide_eq_true_eq, decide_eq_false_iff_not, Bool.not_eq_true', Bool.not_eq_false', Bool.not_eq_true, Bool.not_eq_false, Option.isNone_none, Option.isNone_some, Option.isSome_none, Option.isSome_some, ne_eq, Decidable.not_not] at hb8_3
                 refine WL.skip rfl rfl rfl ?_
                 refine WL.skip rfl rfl rfl ?_
                 refine WL.skip rfl rfl rfl ?_
                 refine WL.skip rfl rfl rfl ?_
                 refine WL.skip rfl rfl rfl ?_
                 refine WL.val rfl rfl rfl rfl (r_pickF rfl (ev_t rfl) ev_c) ?_
                 refine WL.val rfl rfl rfl rfl (r_assign rfl (ev_t rfl)) ?_
                 refine WL.nil ?_
                 refine WX.keep [(10, _)] ⟨rfl, trivial⟩ ?_
                 refine WX.next ?_
                 refine WC.ret ?_
                 refine WX.blockRet ?_
                 refine WX.thenRet ?_
                 refine WX.retE1 rfl rfl ?_
                 refine ⟨?_, hU⟩
                 simp (disch := omega) only [if_pos, if_neg] at hres
                 subst hres
                 congr 1
                 try rw [Bool.eq_iff_iff]
                 try simp only [Bool.and_eq_true, decide_eq_true_eq, Bool.false_eq_true, false_iff]
                 try omega
           · try (exfalso; first | (simp at hc7; done) | (simp only [decide_eq_true_eq, decide_eq_false_iff_not, Bool.not_eq_true', Bool.not_eq_false', Bool.not_eq_true, Bool.not_eq_false] at hc7; omega) | omega)
             all_goals
              try simp only [decide_eq_true_eq, decide_eq_false_iff_not, Bool.not_eq_true', Bool.not_eq_false', Bool.not_eq_true, Bool.not_eq_false, Option.isNone_none, Option.isNone_some, Option.isSome_none, Option.isSome_some, ne_eq, Decidable.not_not] at hc7
              refine WC.seq ?_
              refine WC.region ?_
              refine WL.val rfl rfl rfl rfl (r_eql rfl (ev_t rfl) ev_c) ?_
              refine WL.val rfl rfl rfl rfl (r_assign rfl (ev_t rfl)) ?_
              refine WL.nil ?_
              refine WX.keep [(3, _), (4, _), (6, _), (7, _), (23, _), (48, _)] ⟨rfl, rfl, rfl, rfl, rfl, rfl, trivial⟩ ?_
              refine WX.next ?_
              refine WC.cond rfl (ev_t rfl) (fun hc9 => ?_) (fun hc9 => ?_)
              · try (exfalso; first | (simp at hc9; done) | (simp only [decide_eq_true_eq, decide_eq_false_iff_not, Bool.not_eq_true', Bool.not_eq_false', Bool.not_eq_true, Bool.not_eq_false] at hc9; omega) | omega)
                all_goals
                 try simp only [decide_eq_true_eq, decide_eq_false_iff_not, Bool.not_eq_true', Bool.not_eq_false', Bool.not_eq_true, Bool.not_eq_false, Option.isNone_none, Option.isNone_some, Option.isSome_none, Option.isSome_some, ne_eq, Decidable.not_not] at hc9
                 refine WC.seq ?_
                 refine WC.region ?_
                 first | refine WL.val rfl rfl rfl rfl (r_field0 rfl (ev_t rfl) fld_55_1) ?_ | refine WL.val rfl rfl rfl rfl (r_fieldAt rfl (ev_t rfl) fld_55_1) ?_
                 first | refine WL.val rfl rfl rfl rfl (r_load rfl (ev_t rfl) flat_2 (Blk.cell hB1 rfl)) ?_ | refine WL.val rfl rfl rfl rfl (r_load rfl (ev_t rfl) flat_2 (Blk.cell hB2 rfl)) ?_ | refine WL.val rfl rfl rfl rfl (r_load rfl (ev_t rfl) flat_2 (Blk.cell hB3 rfl)) ?_
                 refine WL.val rfl rfl rfl rfl (r_geq rfl (ev_t rfl) ev_c) ?_
                 refine WL.val rfl rfl rfl rfl (r_move rfl (ev_t rfl)) ?_
                 refine WL.cases 53 rfl (fun hb10_3 => ?_) (fun hb10_3 => ?_)
                 · try (exfalso; first | (simp at hb10_3; done) | (simp only [decide_eq_true_eq, decide_eq_false_iff_not, Bool.not_eq_true', Bool.not_eq_false', Bool.not_eq_true, Bool.not_eq_false] at hb10_3; omega) | omega)
                   all_goals
                    try simp only [decide_eq_true_eq, decide_eq_false_iff_not, Bool.not_eq_true', Bool.not_eq_false', Bool.not_eq_true, Bool.not_eq_false, Option.isNone_none, Option.isNone_some, Option.isSome_none, Option.isSome_some, ne_eq, Decidable.not_not] at hb10_3
                    first | refine WL.val rfl rfl rfl rfl (r_field0 rfl (ev_t rfl) fld_55_1) ?_ | refine WL.val rfl rfl rfl rfl (r_fieldAt rfl (ev_t rfl) fld_55_1) ?_
                    first | refine WL.val rfl rfl rfl rfl (r_load rfl (ev_t rfl) flat_2 (Blk.cell hB1 rfl)) ?_ | refine WL.val rfl rfl rfl rfl (r_load rfl (ev_t rfl) flat_2 (Blk.cell hB2 rfl)) ?_ | refine WL.val rfl rfl rfl rfl (r_load rfl (ev_t rfl) flat_2 (Blk.cell hB3 rfl)) ?_
                    refine WL.val rfl rfl rfl rfl (r_move rfl (ev_t rfl)) ?_
                    refine WL.val rfl rfl rfl rfl (r_lss rfl (ev_t rfl) (ev_t rfl)) ?_
                    refine WL.val rfl rfl rfl rfl (r_pickT rfl (ev_t rfl) (ev_t rfl)) ?_
                    refine WL.val rfl rfl rfl rfl (r_assign rfl (ev_t rfl)) ?_
                    refine WL.nil ?_
                    refine WX.keep [(10, _)] ⟨rfl, trivial⟩ ?_
                    refine WX.next ?_
                    refine WC.ret ?_
                    refine WX.blockRet ?_
                    refine WX.thenRet ?_
                    refine WX.retE1 rfl rfl ?_
                    refine ⟨?_, hU⟩
                    simp (disch := omega) only [if_pos, if_neg] at hres
                    subst hres
                    congr 1
                    try rw [Bool.eq_iff_iff]
                    try simp only [Bool.and_eq_true, decide_eq_true_eq, Bool.false_eq_true, false_iff]
                    try omega
                 · try (exfalso; first | (simp at hb10_3; done) | (simp only [decide_eq_true_eq, decide_eq_false_iff_not, Bool.not_eq_true', Bool.not_eq_false', Bool.not_eq_true, Bool.not_eq_false] at hb10_3; omega) | omega)
                   all_goals
                    try simp only [decide_eq_true_eq, decide_eq_false_iff_not, Bool.not_eq_true', Bool.not_eq_false', Bool.not_eq_true, Bool.not_eq_false, Option.isNone_none, Option.isNone_some, Option.isSome_none, Option.isSome_some, ne_eq, Decidable.not_not] at hb10_3
                    refine WL.skip rfl rfl rfl ?_
                    refine WL.skip rfl rfl rfl ?_
                    refine WL.skip rfl rfl rfl ?_
                    refine WL.skip rfl rfl rfl ?_
                    refine WL.val rfl rfl rfl rfl (r_pickF rfl (ev_t rfl) ev_c) ?_
                    refine WL.val rfl rfl rfl rfl (r_assign rfl (ev_t rfl)) ?_
                    refine WL.nil ?_
                    refine WX.keep [(10, _)] ⟨rfl, trivial⟩ ?_
                    refine WX.next ?_
                    refine WC.ret ?_
                    refine WX.blockRet ?_
                    refine WX.thenRet ?_
                    refine WX.retE1 rfl rfl ?_
                    refine ⟨?_, hU⟩
                    simp (disch := omega) only [if_pos, if_neg] at hres
                    subst hres
                    congr 1
                    try rw [Bool.eq_iff_iff]
                    try simp only [Bool.and_eq_true, decide_eq_true_eq, Bool.false_eq_true, false_iff]
                    try omega
              · try (exfalso; first | (simp at hc9; done) | (simp only [decide_eq_true_eq, decide_eq_false_iff_not, Bool.not_eq_true', Bool.not_eq_false', Bool.not_eq_true, Bool.not_eq_false] at hc9; omega) | omega)
                all_goals
                 try simp only [decide_eq_true_eq, decide_eq_false_iff_not, Bool.not_eq_true', Bool.not_eq_false', Bool.not_eq_true, Bool.not_eq_false, Option.isNone_none, Option.isNone_some, Option.isSome_none, Option.isSome_some, ne_eq, Decidable.not_not] at hc9
                 refine WC.seq ?_
                 refine WC.region ?_
                 refine WL.val rfl rfl rfl rfl (r_eql rfl (ev_t rfl) ev_c) ?_
                 refine WL.val rfl rfl rfl rfl (r_assign rfl (ev_t rfl)) ?_
                 refine WL.nil ?_
                 refine WX.keep [(3, _), (6, _), (7, _), (23, _), (59, _)] ⟨rfl, rfl, rfl, rfl, rfl, trivial⟩ ?_
                 refine WX.next ?_
                 refine WC.cond rfl (ev_t rfl) (fun hc11 => ?_) (fun hc11 => ?_)
                 · try (exfalso; first | (simp at hc11; done) | (simp only [decide_eq_true_eq, decide_eq_false_iff_not, Bool.not_eq_true', Bool.not_eq_false', Bool.not_eq_true, Bool.not_eq_false] at hc11; omega) | omega)
                   all_goals
                    try simp only [decide_eq_true_eq, decide_eq_false_iff_not, Bool.not_eq_true', Bool.not_eq_false', Bool.not_eq_true, Bool.not_eq_false, Option.isNone_none, Option.isNone_some, Option.isSome_none, Option.isSome_some, ne_eq, Decidable.not_not] at hc11
                    refine WC.seq ?_
                    refine WC.draws' (fun u0_ u1_ => Upd No u0_ u1_) (fun j => [0, 1, 0, 0, 0, 1, 0, 0, 0, 0, 0, 0, 0, 0, 0, 0, 0, 0, 1, 0, 0, 0].getD j 0) (.calm 0 (.one 1 (.calm 2 (.calm 3 (.calm 4 (.calm 6 (.calm 7 (.one 5 (.calm 8 (.calm 9 (.calm 10 (.calm 11 (.calm 12 (.calm 17 (.held 13 (.calm 14 (.calm 15 (.held 16 (.one 18 (.calm 19 (.calm 20 (.calm 21 (.done))))))))))))))))))))))) mixed (by kernel_rfl) (by repeat (first | with_reducible exact Deaf.body | with_reducible apply Deaf.then | with_reducible apply Deaf.block)) ?_
                    intro w5 hu5
                    have hz5 := congrArg Array.size hu5.2.2.2
                    replace hu5 := Upd.of_draw hu5
                    have hs5 := hu5.size
                    replace hU := hU.transA hu5
                    replace hB1 := hB1.updA hu5
                    replace hB2 := hB2.updA hu5
                    replace hB3 := hB3.updA hu5
                    have hS12 := Upd.refl No w5
                    first | refine WN.calm _ rfl rfl rfl rfl rfl (fun _ => r_field0 rfl (ev_t rfl) fld_55_1) ?_ | refine WN.calm _ rfl rfl rfl rfl rfl (fun _ => r_fieldAt rfl (ev_t rfl) fld_55_1) ?_
                    first | refine WN.step _ rfl (SO.val rfl rfl rfl rfl (r_load rfl (ev_t rfl) flat_2 (Blk.cell hB1 rfl)) ?_) | refine WN.step _ rfl (SO.val rfl rfl rfl rfl (r_load rfl (ev_t rfl) flat_2 (Blk.cell hB2 rfl)) ?_) | refine WN.step _ rfl (SO.val rfl rfl rfl rfl (r_load rfl (ev_t rfl) flat_2 (Blk.cell hB3 rfl)) ?_)
                    refine ⟨hS12, ?_⟩
                    refine WN.calm _ rfl rfl rfl rfl rfl (fun _ => r_geq rfl (ev_t rfl) ev_c) ?_
                    refine WN.calm _ rfl rfl rfl rfl rfl (fun _ => r_move rfl (ev_t rfl)) ?_
                    refine WN.cases 64 rfl (fun hb12_3 => ?_) (fun hb12_3 => ?_)
                    · try (exfalso; first | (simp at hb12_3; done) | (simp only [decide_eq_true_eq, decide_eq_false_iff_not, Bool.not_eq_true', Bool.not_eq_false', Bool.not_eq_true, Bool.not_eq_false] at hb12_3; omega) | omega)
                      all_goals
                       try simp only [decide_eq_true_eq, decide_eq_false_iff_not, Bool.not_eq_true', Bool.not_eq_false', Bool.not_eq_true, Bool.not_eq_false, Option.isNone_none, Option.isNone_some, Option.isSome_none, Option.isSome_some, ne_eq, Decidable.not_not] at hb12_3
                       first | refine WN.calm _ rfl rfl rfl rfl rfl (fun _ => r_field0 rfl (ev_t rfl) fld_55_1) ?_ | refine WN.calm _ rfl rfl rfl rfl rfl (fun _ => r_fieldAt rfl (ev_t rfl) fld_55_1) ?_
                       refine WN.calm _ rfl rfl rfl rfl rfl (fun _ => r_move rfl (ev_t rfl)) ?_
                       refine WN.calm _ rfl rfl rfl rfl rfl (fun _ => r_lenSlice (ts := #[]) rfl (ev_t rfl) elem_27) ?_
                       first | refine WN.step _ rfl (SO.val rfl rfl rfl rfl (r_load rfl (ev_t rfl) flat_2 (Blk.cell hB1 rfl)) ?_) | refine WN.step _ rfl (SO.val rfl rfl rfl rfl (r_load rfl (ev_t rfl) flat_2 (Blk.cell hB2 rfl)) ?_) | refine WN.step _ rfl (SO.val rfl rfl rfl rfl (r_load rfl (ev_t rfl) flat_2 (Blk.cell hB3 rfl)) ?_)
                       refine ⟨hS12, ?_⟩
                       refine WN.calm _ rfl rfl rfl rfl rfl (fun _ => r_lss rfl (ev_t rfl) (ev_t rfl)) ?_
                       refine WN.calm _ rfl rfl rfl rfl rfl (fun _ => r_pickT rfl (ev_t rfl) (ev_t rfl)) ?_
                       refine WN.calm _ rfl rfl rfl rfl rfl (fun _ => r_move rfl (ev_t rfl)) ?_
                       refine WN.cases 71 rfl (fun hb12_10 => ?_) (fun hb12_10 => ?_)
                       · try (exfalso; first | (simp at hb12_10; done) | (simp only [decide_eq_true_eq, decide_eq_false_iff_not, Bool.not_eq_true', Bool.not_eq_false', Bool.not_eq_true, Bool.not_eq_false] at hb12_10; omega) | omega)
                         all_goals
                          try simp only [decide_eq_true_eq, decide_eq_false_iff_not, Bool.not_eq_true', Bool.not_eq_false', Bool.not_eq_true, Bool.not_eq_false, Option.isNone_none, Option.isNone_some, Option.isSome_none, Option.isSome_some, ne_eq, Decidable.not_not] at hb12_10
                          obtain ⟨x, hx⟩ : ∃ x, V[In_.toNat]? = some x := ⟨_, List.getElem?_eq_getElem (by omega)⟩
                          have hcell := flatMap_get FnV.cells_len hx
                          have hxa : (all[In_.toNat]?).map (·.caps) = some x.f.caps := by rw [← hVl, List.getElem?_map, hx]; rfl
                          obtain ⟨ba, oa, rfl, _⟩ := hV.open (by omega)
                          refine WN.calm _ rfl rfl rfl rfl rfl (fun _ => r_move rfl (ev_t rfl)) ?_
                          first | refine WN.calm _ rfl rfl rfl rfl rfl (fun _ => r_field0 rfl (ev_t rfl) fld_55_1) ?_ | refine WN.calm _ rfl rfl rfl rfl rfl (fun _ => r_fieldAt rfl (ev_t rfl) fld_55_1) ?_
                          first | refine WN.calm _ rfl rfl rfl rfl rfl (fun _ => r_field0 rfl (ev_t rfl) fld_55_2) ?_ | refine WN.calm _ rfl rfl rfl rfl rfl (fun _ => r_fieldAt rfl (ev_t rfl) fld_55_2) ?_
                          first | refine WN.held _ rfl rfl rfl rfl rfl hS12 (fun w' hS => r_load rfl (ev_t rfl) flat_2 (Blk.cell (hB1.upd hS (fun h => h)) rfl)) ?_ | refine WN.held _ rfl rfl rfl rfl rfl hS12 (fun w' hS => r_load rfl (ev_t rfl) flat_2 (Blk.cell (hB2.upd hS (fun h => h)) rfl)) ?_ | refine WN.held _ rfl rfl rfl rfl rfl hS12 (fun w' hS => r_load rfl (ev_t rfl) flat_2 (Blk.cell (hB3.upd hS (fun h => h)) rfl)) ?_
                          refine WN.calm _ rfl rfl rfl rfl rfl (fun _ => r_indexAddr rfl (ev_t rfl) (ev_t rfl) elem_27 size_54 (by omega) (by omega)) ?_
                          first | refine WN.calm _ rfl rfl rfl rfl rfl (fun _ => r_field0 rfl (ev_t rfl) fld_54_0) ?_ | refine WN.calm _ rfl rfl rfl rfl rfl (fun _ => r_fieldAt rfl (ev_t rfl) fld_54_0) ?_
                          refine WN.held _ rfl rfl rfl rfl rfl hS12 (fun w' hS => r_load rfl (ev_t rfl) flat_3 (Rd.cell ((hV.upd hU (fun _ _ _ h => h)).upd hS (fun _ _ _ h => h)) (j := In_.toNat * 2) (by omega) (hcell 0 _ rfl))) ?_
                          first | refine WN.step _ rfl (SO.val rfl rfl rfl rfl (r_load rfl (ev_t rfl) flat_3 (Blk.cell hB1 rfl)) ?_) | refine WN.step _ rfl (SO.val rfl rfl rfl rfl (r_load rfl (ev_t rfl) flat_3 (Blk.cell hB2 rfl)) ?_) | refine WN.step _ rfl (SO.val rfl rfl rfl rfl (r_load rfl (ev_t rfl) flat_3 (Blk.cell hB3 rfl)) ?_)
                          refine ⟨hS12, ?_⟩
                          refine WN.calm _ rfl rfl rfl rfl rfl (fun _ => r_eql rfl (ev_t rfl) (ev_t rfl)) ?_
                          refine WN.calm _ rfl rfl rfl rfl rfl (fun _ => r_pickT rfl (ev_t rfl) (ev_t rfl)) ?_
                          refine WN.calm _ rfl rfl rfl rfl rfl (fun _ => r_assign rfl (ev_t rfl)) ?_
                          refine WN.done ?_
                          refine WX.keep [(10, _)] ⟨rfl, trivial⟩ ?_
                          refine WX.next ?_
                          refine WC.ret ?_
                          refine WX.blockRet ?_
                          refine WX.thenRet ?_
                          refine WX.retE1 rfl rfl ?_
                          refine ⟨?_, hU⟩
                          simp (disch := omega) only [if_pos, if_neg] at hres
                          subst hres
                          congr 1
                          rw [Bool.eq_iff_iff]
                          first
                            | (rw [hxa]; simp only [Bool.and_eq_true, decide_eq_true_eq, Bool.false_eq_true, Option.some.injEq, false_iff]; omega)
                            | (simp only [Bool.and_eq_true, decide_eq_true_eq, Bool.false_eq_true, false_iff]; rintro ⟨⟨a1, a2⟩, _⟩; omega)
                       · try (exfalso; first | (simp at hb12_10; done) | (simp only [decide_eq_true_eq, decide_eq_false_iff_not, Bool.not_eq_true', Bool.not_eq_false', Bool.not_eq_true, Bool.not_eq_false] at hb12_10; omega) | omega)
                         all_goals
                          try simp only [decide_eq_true_eq, decide_eq_false_iff_not, Bool.not_eq_true', Bool.not_eq_false', Bool.not_eq_true, Bool.not_eq_false, Option.isNone_none, Option.isNone_some, Option.isSome_none, Option.isSome_some, ne_eq, Decidable.not_not] at hb12_10
                          refine WN.skip _ rfl rfl rfl rfl ?_
                          refine WN.skip _ rfl rfl rfl rfl ?_
                          refine WN.skip _ rfl rfl rfl rfl ?_
                          refine WN.heldSkip _ rfl rfl rfl rfl hS12 ?_
                          refine WN.skip _ rfl rfl rfl rfl ?_
                          refine WN.skip _ rfl rfl rfl rfl ?_
                          refine WN.heldSkip _ rfl rfl rfl rfl hS12 ?_
                          refine WN.step _ rfl (SO.skip rfl rfl rfl ?_)
                          refine ⟨hS12, ?_⟩
                          refine WN.skip _ rfl rfl rfl rfl ?_
                          refine WN.calm _ rfl rfl rfl rfl rfl (fun _ => r_pickF rfl (ev_t rfl) ev_c) ?_
                          refine WN.calm _ rfl rfl rfl rfl rfl (fun _ => r_assign rfl (ev_t rfl)) ?_
                          refine WN.done ?_
                          refine WX.keep [(10, _)] ⟨rfl, trivial⟩ ?_
                          refine WX.next ?_
                          refine WC.ret ?_
                          refine WX.blockRet ?_
                          refine WX.thenRet ?_
                          refine WX.retE1 rfl rfl ?_
                          refine ⟨?_, hU⟩
                          simp (disch := omega) only [if_pos, if_neg] at hres
                          subst hres
                          congr 1
                          rw [Bool.eq_iff_iff]
                          first
                            | (rw [hxa]; simp only [Bool.and_eq_true, decide_eq_true_eq, Bool.false_eq_true, Option.some.injEq, false_iff]; omega)
                            | (simp only [Bool.and_eq_true, decide_eq_true_eq, Bool.false_eq_true, false_iff]; rintro ⟨⟨a1, a2⟩, _⟩; omega)
                    · try (exfalso; first | (simp at hb12_3; done) | (simp only [decide_eq_true_eq, decide_eq_false_iff_not, Bool.not_eq_true', Bool.not_eq_false', Bool.not_eq_true, Bool.not_eq_false] at hb12_3; omega) | omega)
                      all_goals
                       try simp only [decide_eq_true_eq, decide_eq_false_iff_not, Bool.not_eq_true', Bool.not_eq_false', Bool.not_eq_true, Bool.not_eq_false, Option.isNone_none, Option.isNone_some, Option.isSome_none, Option.isSome_some, ne_eq, Decidable.not_not] at hb12_3
                       refine WN.skip _ rfl rfl rfl rfl ?_
                       refine WN.skip _ rfl rfl rfl rfl ?_
                       refine WN.skip _ rfl rfl rfl rfl ?_
                       refine WN.step _ rfl (SO.skip rfl rfl rfl ?_)
                       refine ⟨hS12, ?_⟩
                       refine WN.skip _ rfl rfl rfl rfl ?_
                       refine WN.calm _ rfl rfl rfl rfl rfl (fun _ => r_pickF rfl (ev_t rfl) ev_c) ?_
                       refine WN.calm _ rfl rfl rfl rfl rfl (fun _ => r_move rfl (ev_t rfl)) ?_
                       refine WN.skip _ rfl rfl rfl rfl ?_
                       refine WN.skip _ rfl rfl rfl rfl ?_
                       refine WN.skip _ rfl rfl rfl rfl ?_
                       refine WN.heldSkip _ rfl rfl rfl rfl hS12 ?_
                       refine WN.skip _ rfl rfl rfl rfl ?_
                       refine WN.skip _ rfl rfl rfl rfl ?_
                       refine WN.heldSkip _ rfl rfl rfl rfl hS12 ?_
                       refine WN.step _ rfl (SO.skip rfl rfl rfl ?_)
                       refine ⟨hS12, ?_⟩
                       refine WN.skip _ rfl rfl rfl rfl ?_
                       refine WN.calm _ rfl rfl rfl rfl rfl (fun _ => r_pickF rfl (ev_t rfl) ev_c) ?_
                       refine WN.calm _ rfl rfl rfl rfl rfl (fun _ => r_assign rfl (ev_t rfl)) ?_
                       refine WN.done ?_
                       refine WX.keep [(10, _)] ⟨rfl, trivial⟩ ?_
                       refine WX.next ?_
                       refine WC.ret ?_
                       refine WX.blockRet ?_
                       refine WX.thenRet ?_
                       refine WX.retE1 rfl rfl ?_
                       refine ⟨?_, hU⟩
                       simp (disch := omega) only [if_pos, if_neg] at hres
                       subst hres
                       congr 1
                       rw [Bool.eq_iff_iff]
                       first
                         | (rw [hxa]; simp only [Bool.and_eq_true, decide_eq_true_eq, Bool.false_eq_true, Option.some.injEq, false_iff]; omega)
                         | (simp only [Bool.and_eq_true, decide_eq_true_eq, Bool.false_eq_true, false_iff]; rintro ⟨⟨a1, a2⟩, _⟩; omega)
                 · try (exfalso; first | (simp at hc11; done) | (simp only [decide_eq_true_eq, decide_eq_false_iff_not, Bool.not_eq_true', Bool.not_eq_false', Bool.not_eq_true, Bool.not_eq_false] at hc11; omega) | omega)
                   all_goals
                    try simp only [decide_eq_true_eq, decide_eq_false_iff_not, Bool.not_eq_true', Bool.not_eq_false', Bool.not_eq_true, Bool.not_eq_false, Option.isNone_none, Option.isNone_some, Option.isSome_none, Option.isSome_some, ne_eq, Decidable.not_not] at hc11
                    refine WC.seq ?_
                    refine WC.region ?_
                    refine WL.val rfl rfl rfl rfl (r_eql rfl (ev_t rfl) ev_c) ?_
                    refine WL.val rfl rfl rfl rfl (r_assign rfl (ev_t rfl)) ?_
                    refine WL.nil ?_
                    refine WX.keep [(7, _), (23, _), (82, _)] ⟨rfl, rfl, rfl, trivial⟩ ?_
                    refine WX.next ?_
                    refine WC.cond rfl (ev_t rfl) (fun hc13 => ?_) (fun hc13 => ?_)
                    · try (exfalso; first | (simp at hc13; done) | (simp only [decide_eq_true_eq, decide_eq_false_iff_not, Bool.not_eq_true', Bool.not_eq_false', Bool.not_eq_true, Bool.not_eq_false] at hc13; omega) | omega)
                      all_goals
                       try simp only [decide_eq_true_eq, decide_eq_false_iff_not, Bool.not_eq_true', Bool.not_eq_false', Bool.not_eq_true, Bool.not_eq_false, Option.isNone_none, Option.isNone_some, Option.isSome_none, Option.isSome_some, ne_eq, Decidable.not_not] at hc13
                       refine WC.seq ?_
                       refine WC.region ?_
                       first | refine WL.val rfl rfl rfl rfl (r_field0 rfl (ev_t rfl) fld_75_1) ?_ | refine WL.val rfl rfl rfl rfl (r_fieldAt rfl (ev_t rfl) fld_75_1) ?_
                       first | refine WL.val rfl rfl rfl rfl (r_load rfl (ev_t rfl) flat_3 (Blk.cell hB1 rfl)) ?_ | refine WL.val rfl rfl rfl rfl (r_load rfl (ev_t rfl) flat_3 (Blk.cell hB2 rfl)) ?_ | refine WL.val rfl rfl rfl rfl (r_load rfl (ev_t rfl) flat_3 (Blk.cell hB3 rfl)) ?_
                       refine WL.val rfl rfl rfl rfl (r_eql rfl (ev_t rfl) ev_c) ?_
                       refine WL.val rfl rfl rfl rfl (r_move rfl (ev_t rfl)) ?_
                       refine WL.cases 87 rfl (fun hb14_3 => ?_) (fun hb14_3 => ?_)
                       · try (exfalso; first | (simp at hb14_3; done) | (simp only [decide_eq_true_eq, decide_eq_false_iff_not, Bool.not_eq_true', Bool.not_eq_false', Bool.not_eq_true, Bool.not_eq_false] at hb14_3; omega) | omega)
                         all_goals
                          try simp only [decide_eq_true_eq, decide_eq_false_iff_not, Bool.not_eq_true', Bool.not_eq_false', Bool.not_eq_true, Bool.not_eq_false, Option.isNone_none, Option.isNone_some, Option.isSome_none, Option.isSome_some, ne_eq, Decidable.not_not] at hb14_3
                          first | refine WL.val rfl rfl rfl rfl (r_field0 rfl (ev_t rfl) fld_75_2) ?_ | refine WL.val rfl rfl rfl rfl (r_fieldAt rfl (ev_t rfl) fld_75_2) ?_
                          first | refine WL.val rfl rfl rfl rfl (r_load rfl (ev_t rfl) flat_3 (Blk.cell hB1 rfl)) ?_ | refine WL.val rfl rfl rfl rfl (r_load rfl (ev_t rfl) flat_3 (Blk.cell hB2 rfl)) ?_ | refine WL.val rfl rfl rfl rfl (r_load rfl (ev_t rfl) flat_3 (Blk.cell hB3 rfl)) ?_
                          refine WL.val rfl rfl rfl rfl (r_eql rfl (ev_t rfl) ev_c) ?_
                          refine WL.val rfl rfl rfl rfl (r_pickT rfl (ev_t rfl) (ev_t rfl)) ?_
                          refine WL.val rfl rfl rfl rfl (r_assign rfl (ev_t rfl)) ?_
                          refine WL.nil ?_
                          refine WX.keep [(10, _)] ⟨rfl, trivial⟩ ?_
                          refine WX.next ?_
                          refine WC.ret ?_
                          refine WX.blockRet ?_
                          refine WX.thenRet ?_
                          refine WX.retE1 rfl rfl ?_
                          refine ⟨?_, hU⟩
                          simp (disch := omega) only [if_pos, if_neg] at hres
                          subst hres
                          congr 1
                          try rw [Bool.eq_iff_iff]
                          try simp only [Bool.and_eq_true, decide_eq_true_eq, Bool.false_eq_true, false_iff]
                          try omega
                       · try (exfalso; first | (simp at hb14_3; done) | (simp only [decide_eq_true_eq, decide_eq_false_iff_not, Bool.not_eq_true', Bool.not_eq_false', Bool.not_eq_true, Bool.not_eq_false] at hb14_3; omega) | omega)
                         all_goals
                          try simp only [decide_eq_true_eq, decide_eq_false_iff_not, Bool.not_eq_true', Bool.not_eq_false', Bool.not_eq_true, Bool.not_eq_false, Option.isNone_none, Option.isNone_some, Option.isSome_none, Option.isSome_some, ne_eq, Decidable.not_not] at hb14_3
                          refine WL.skip rfl rfl rfl ?_
                          refine WL.skip rfl rfl rfl ?_
                          refine WL.skip rfl rfl rfl ?_
                          refine WL.val rfl rfl rfl rfl (r_pickF rfl (ev_t rfl) ev_c) ?_
                          refine WL.val rfl rfl rfl rfl (r_assign rfl (ev_t rfl)) ?_
                          refine WL.nil ?_
                          refine WX.keep [(10, _)] ⟨rfl, trivial⟩ ?_
                          refine WX.next ?_
                          refine WC.ret ?_
                          refine WX.blockRet ?_
                          refine WX.thenRet ?_
                          refine WX.retE1 rfl rfl ?_
                          refine ⟨?_, hU⟩
                          simp (disch := omega) only [if_pos, if_neg] at hres
                          subst hres
                          congr 1
                          try rw [Bool.eq_iff_iff]
                          try simp only [Bool.and_eq_true, decide_eq_true_eq, Bool.false_eq_true, false_iff]
                          try omega
                    · try (exfalso; first | (simp at hc13; done) | (simp only [decide_eq_true_eq, decide_eq_false_iff_not, Bool.not_eq_true', Bool.not_eq_false', Bool.not_eq_true, Bool.not_eq_false] at hc13; omega) | omega)
                      all_goals
                       try simp only [decide_eq_true_eq, decide_eq_false_iff_not, Bool.not_eq_true', Bool.not_eq_false', Bool.not_eq_true, Bool.not_eq_false, Option.isNone_none, Option.isNone_some, Option.isSome_none, Option.isSome_some, ne_eq, Decidable.not_not] at hc13
                       refine WC.seq ?_
                       refine WC.region ?_
                       refine WL.val rfl rfl rfl rfl (r_eql rfl (ev_t rfl) ev_c) ?_
                       refine WL.val rfl rfl rfl rfl (r_assign rfl (ev_t rfl)) ?_
                       refine WL.nil ?_
                       refine WX.keep [(7, _), (92, _)] ⟨rfl, rfl, trivial⟩ ?_
                       refine WX.next ?_
                       refine WC.cond rfl (ev_t rfl) (fun hc15 => ?_) (fun hc15 => ?_)
                       · try (exfalso; first | (simp at hc15; done) | (simp only [decide_eq_true_eq, decide_eq_false_iff_not, Bool.not_eq_true', Bool.not_eq_false', Bool.not_eq_true, Bool.not_eq_false] at hc15; omega) | omega)
                         all_goals
                          try simp only [decide_eq_true_eq, decide_eq_false_iff_not, Bool.not_eq_true', Bool.not_eq_false', Bool.not_eq_true, Bool.not_eq_false, Option.isNone_none, Option.isNone_some, Option.isSome_none, Option.isSome_some, ne_eq, Decidable.not_not] at hc15
                          refine WC.seq ?_
                          refine WC.region ?_
                          first | refine WL.val rfl rfl rfl rfl (r_field0 rfl (ev_t rfl) fld_75_2) ?_ | refine WL.val rfl rfl rfl rfl (r_fieldAt rfl (ev_t rfl) fld_75_2) ?_
                          first | refine WL.val rfl rfl rfl rfl (r_load rfl (ev_t rfl) flat_3 (Blk.cell hB1 rfl)) ?_ | refine WL.val rfl rfl rfl rfl (r_load rfl (ev_t rfl) flat_3 (Blk.cell hB2 rfl)) ?_ | refine WL.val rfl rfl rfl rfl (r_load rfl (ev_t rfl) flat_3 (Blk.cell hB3 rfl)) ?_
                          refine WL.val rfl rfl rfl rfl (r_gtr rfl (ev_t rfl) ev_c) ?_
                          refine WL.val rfl rfl rfl rfl (r_assign rfl (ev_t rfl)) ?_
                          refine WL.nil ?_
                          refine WX.keep [(10, _)] ⟨rfl, trivial⟩ ?_
                          refine WX.next ?_
                          refine WC.ret ?_
                          refine WX.blockRet ?_
                          refine WX.thenRet ?_
                          refine WX.retE1 rfl rfl ?_
                          refine ⟨?_, hU⟩
                          simp (disch := omega) only [if_pos, if_neg] at hres
                          subst hres
                          congr 1
                          try rw [Bool.eq_iff_iff]
                          try simp only [Bool.and_eq_true, decide_eq_true_eq, Bool.false_eq_true, false_iff]
                          try omega
                       · try (exfalso; first | (simp at hc15; done) | (simp only [decide_eq_true_eq, decide_eq_false_iff_not, Bool.not_eq_true', Bool.not_eq_false', Bool.not_eq_true, Bool.not_eq_false] at hc15; omega) | omega)
                         all_goals
                          try simp only [decide_eq_true_eq, decide_eq_false_iff_not, Bool.not_eq_true', Bool.not_eq_false', Bool.not_eq_true, Bool.not_eq_false, Option.isNone_none, Option.isNone_some, Option.isSome_none, Option.isSome_some, ne_eq, Decidable.not_not] at hc15
                          refine WC.skip ?_
                          refine WX.blockNormal ?_
                          refine WX.next ?_
                          refine WC.seq ?_
                          refine WC.region ?_
                          refine WL.val rfl rfl rfl rfl (r_assign rfl ev_c) ?_
                          refine WL.nil ?_
                          refine WX.keep [(10, _)] ⟨rfl, trivial⟩ ?_
                          refine WX.next ?_
                          refine WC.ret ?_
                          refine WX.retE1 rfl rfl ?_
                          refine ⟨?_, hU⟩
                          simp (disch := omega) only [if_pos, if_neg] at hres
                          subst hres
                          congr 1
                          try rw [Bool.eq_iff_iff]
                          try simp only [Bool.and_eq_true, decide_eq_true_eq, Bool.false_eq_true, false_iff]
                          try omega

end Go.Proofs.YtipabhbnljadfaaDoor
