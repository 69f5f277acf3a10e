/-
  Several texts put together: Wbg, Wf, Wbh, We, Wbi.
-/
import Derived.Test.YtnjfhmlfpfkllaaZe
/-
  The reference's Same; law 14's open and state.
-/
namespace Go.Proofs.Ytnjfhmlfpfkllaa
open Go
set_option linter.unusedSimpArgs false
set_option linter.unusedVariables false

set_option maxHeartbeats 2000000 in
theorem SameEntry_ok {w : World} {F F' : Nat → Prop} {x : En} {cv cv' : Value} (h : Rd w F cv x.cell.length 1 (x.cell.map U8)) (h' : Rd w F' cv' x.cell.length 1 (x.cell.map U8)) :
    Ret Try.prog 21 #[.agg #[.int .u64 (x.term : Int), .int .u64 (x.ses : Int), .int .u64 (x.num : Int), cv], .agg #[.int .u64 (x.term : Int), .int .u64 (x.ses : Int), .int .u64 (x.num : Int), cv']] w fun u w' => u = .bool true ∧ Upd No w w' := by
  refine enterRet (vs := [_, _]) (N := 33) Try.func21 rfl rfl rfl ?_
  have hU := Upd.refl No w
  refine WC.keep [(0, _), (1, _)] ⟨rfl, rfl, trivial⟩ ?_
  refine WC.seq ?_
  refine WC.region ?_
  refine WL.cons (SO.alloc rfl rfl rfl rfl (r_boxAgg rfl (ev_t rfl)) ?_)
  intro w1 hu1 hB1 hz1
  have hs1 := hu1.size
  replace hU := hU.transA hu1
  have h2 := hB1
  refine WL.cons (SO.alloc rfl rfl rfl rfl (r_boxAgg rfl (ev_t rfl)) ?_)
  intro w2 hu2 hB2 hz2
  have hs2 := hu2.size
  replace hU := hU.transA hu2
  replace hB1 := hB1.updA hu2
  replace h2 := h2.upd hu2 (fun h => h)
  refine WL.val rfl rfl rfl rfl (r_assign rfl ev_c) ?_
  refine WL.nil ?_
  refine WX.keep [(2, _), (3, _)] ⟨rfl, rfl, trivial⟩ ?_
  have h3 := hB2
  refine WX.next ?_
  refine WC.seq ?_
  refine WC.region ?_
  first | refine WL.val rfl rfl rfl rfl (r_field0 rfl (ev_t rfl) fld_33_0) ?_ | refine WL.val rfl rfl rfl rfl (r_fieldAt rfl (ev_t rfl) fld_33_0) ?_
  refine WL.val rfl rfl rfl rfl (r_load rfl (ev_t rfl) flat_29 (Blk.cell h2 rfl)) ?_
  first | refine WL.val rfl rfl rfl rfl (r_field0 rfl (ev_t rfl) fld_33_0) ?_ | refine WL.val rfl rfl rfl rfl (r_fieldAt rfl (ev_t rfl) fld_33_0) ?_
  refine WL.val rfl rfl rfl rfl (r_load rfl (ev_t rfl) flat_29 (Blk.cell h3 rfl)) ?_
  refine WL.val rfl rfl rfl rfl (r_eql rfl (ev_t rfl) (ev_t rfl)) ?_
  refine WL.val rfl rfl rfl rfl (r_move rfl (ev_t rfl)) ?_
  refine WL.cases 10 rfl (fun hb1_5 => ?_) (fun hb1_5 => ?_)
  · try (exfalso; first | (simp at hb1_5; done) | (simp only [decide_eq_true_eq, decide_eq_false_iff_not, Bool.not_eq_true', Bool.not_eq_false', Bool.not_eq_true, Bool.not_eq_false] at hb1_5; omega) | omega)
    all_goals
     try simp only [decide_eq_true_eq, decide_eq_false_iff_not, Bool.not_eq_true', Bool.not_eq_false', Bool.not_eq_true, Bool.not_eq_false, Option.isNone_none, Option.isNone_some, Option.isSome_none, Option.isSome_some, ne_eq, Decidable.not_not] at hb1_5
     first | refine WL.val rfl rfl rfl rfl (r_field0 rfl (ev_t rfl) fld_33_1) ?_ | refine WL.val rfl rfl rfl rfl (r_fieldAt rfl (ev_t rfl) fld_33_1) ?_
     refine WL.val rfl rfl rfl rfl (r_load rfl (ev_t rfl) flat_29 (Blk.cell h2 rfl)) ?_
     first | refine WL.val rfl rfl rfl rfl (r_field0 rfl (ev_t rfl) fld_33_1) ?_ | refine WL.val rfl rfl rfl rfl (r_fieldAt rfl (ev_t rfl) fld_33_1) ?_
     refine WL.val rfl rfl rfl rfl (r_load rfl (ev_t rfl) flat_29 (Blk.cell h3 rfl)) ?_
     refine WL.val rfl rfl rfl rfl (r_eql rfl (ev_t rfl) (ev_t rfl)) ?_
     refine WL.val rfl rfl rfl rfl (r_pickT rfl (ev_t rfl) (ev_t rfl)) ?_
     refine WL.val rfl rfl rfl rfl (r_move rfl (ev_t rfl)) ?_
     refine WL.cases 17 rfl (fun hb1_12 => ?_) (fun hb1_12 => ?_)
     · try (exfalso; first | (simp at hb1_12; done) | (simp only [decide_eq_true_eq, decide_eq_false_iff_not, Bool.not_eq_true', Bool.not_eq_false', Bool.not_eq_true, Bool.not_eq_false] at hb1_12; omega) | omega)
       all_goals
        try simp only [decide_eq_true_eq, decide_eq_false_iff_not, Bool.not_eq_true', Bool.not_eq_false', Bool.not_eq_true, Bool.not_eq_false, Option.isNone_none, Option.isNone_some, Option.isSome_none, Option.isSome_some, ne_eq, Decidable.not_not] at hb1_12
        first | refine WL.val rfl rfl rfl rfl (r_field0 rfl (ev_t rfl) fld_33_2) ?_ | refine WL.val rfl rfl rfl rfl (r_fieldAt rfl (ev_t rfl) fld_33_2) ?_
        refine WL.val rfl rfl rfl rfl (r_load rfl (ev_t rfl) flat_29 (Blk.cell h2 rfl)) ?_
        first | refine WL.val rfl rfl rfl rfl (r_field0 rfl (ev_t rfl) fld_33_2) ?_ | refine WL.val rfl rfl rfl rfl (r_fieldAt rfl (ev_t rfl) fld_33_2) ?_
        refine WL.val rfl rfl rfl rfl (r_load rfl (ev_t rfl) flat_29 (Blk.cell h3 rfl)) ?_
        refine WL.val rfl rfl rfl rfl (r_eql rfl (ev_t rfl) (ev_t rfl)) ?_
        refine WL.val rfl rfl rfl rfl (r_pickT rfl (ev_t rfl) (ev_t rfl)) ?_
        refine WL.val rfl rfl rfl rfl (r_move rfl (ev_t rfl)) ?_
        refine WL.cases 24 rfl (fun hb1_19 => ?_) (fun hb1_19 => ?_)
        · try (exfalso; first | (simp at hb1_19; done) | (simp only [decide_eq_true_eq, decide_eq_false_iff_not, Bool.not_eq_true', Bool.not_eq_false', Bool.not_eq_true, Bool.not_eq_false] at hb1_19; omega) | omega)
          all_goals
           try simp only [decide_eq_true_eq, decide_eq_false_iff_not, Bool.not_eq_true', Bool.not_eq_false', Bool.not_eq_true, Bool.not_eq_false, Option.isNone_none, Option.isNone_some, Option.isSome_none, Option.isSome_some, ne_eq, Decidable.not_not] at hb1_19
           first | refine WL.val rfl rfl rfl rfl (r_field0 rfl (ev_t rfl) fld_33_3) ?_ | refine WL.val rfl rfl rfl rfl (r_fieldAt rfl (ev_t rfl) fld_33_3) ?_
           refine WL.val rfl rfl rfl rfl (r_load rfl (ev_t rfl) flat_22 (Blk.cell h2 rfl)) ?_
           refine WL.val rfl rfl rfl rfl (r_toStr rfl (ev_t rfl) (h.upd hU (fun _ _ _ h => h)) elem_22 int_5 str_9) ?_
           first | refine WL.val rfl rfl rfl rfl (r_field0 rfl (ev_t rfl) fld_33_3) ?_ | refine WL.val rfl rfl rfl rfl (r_fieldAt rfl (ev_t rfl) fld_33_3) ?_
           refine WL.val rfl rfl rfl rfl (r_load rfl (ev_t rfl) flat_22 (Blk.cell h3 rfl)) ?_
           refine WL.val rfl rfl rfl rfl (r_toStr rfl (ev_t rfl) (h'.upd hU (fun _ _ _ h => h)) elem_22 int_5 str_9) ?_
           refine WL.val rfl rfl rfl rfl (r_eqlStrL rfl (ev_t rfl) (ev_t rfl)) ?_
           refine WL.val rfl rfl rfl rfl (r_pickT rfl (ev_t rfl) (ev_t rfl)) ?_
           refine WL.val rfl rfl rfl rfl (r_assign rfl (ev_t rfl)) ?_
           refine WL.nil ?_
           refine WX.keep [(4, _)] ⟨rfl, trivial⟩ ?_
           refine WX.next ?_
           refine WC.ret ?_
           refine WX.retE1 rfl rfl ?_
           exact ⟨by simp, hU⟩
        · try (exfalso; first | (simp at hb1_19; done) | (simp only [decide_eq_true_eq, decide_eq_false_iff_not, Bool.not_eq_true', Bool.not_eq_false', Bool.not_eq_true, Bool.not_eq_false] at hb1_19; omega) | omega)
          all_goals
           try simp only [decide_eq_true_eq, decide_eq_false_iff_not, Bool.not_eq_true', Bool.not_eq_false', Bool.not_eq_true, Bool.not_eq_false, Option.isNone_none, Option.isNone_some, Option.isSome_none, Option.isSome_some, ne_eq, Decidable.not_not] at hb1_19
           refine WL.skip rfl rfl rfl ?_
           refine WL.skip rfl rfl rfl ?_
           refine WL.skip rfl rfl rfl ?_
           refine WL.skip rfl rfl rfl ?_
           refine WL.skip rfl rfl rfl ?_
           refine WL.skip rfl rfl rfl ?_
           refine WL.skip rfl rfl rfl ?_
           refine WL.val rfl rfl rfl rfl (r_pickF rfl (ev_t rfl) ev_c) ?_
           refine WL.val rfl rfl rfl rfl (r_assign rfl (ev_t rfl)) ?_
           refine WL.nil ?_
           refine WX.keep [(4, _)] ⟨rfl, trivial⟩ ?_
           refine WX.next ?_
           refine WC.ret ?_
           refine WX.retE1 rfl rfl ?_
           exact ⟨by simp, hU⟩
     · try (exfalso; first | (simp at hb1_12; done) | (simp only [decide_eq_true_eq, decide_eq_false_iff_not, Bool.not_eq_true', Bool.not_eq_false', Bool.not_eq_true, Bool.not_eq_false] at hb1_12; omega) | omega)
       all_goals
        try simp only [decide_eq_true_eq, decide_eq_false_iff_not, Bool.not_eq_true', Bool.not_eq_false', Bool.not_eq_true, Bool.not_eq_false, Option.isNone_none, Option.isNone_some, Option.isSome_none, Option.isSome_some, ne_eq, Decidable.not_not] at hb1_12
        refine WL.skip rfl rfl rfl ?_
        refine WL.skip rfl rfl rfl ?_
        refine WL.skip rfl rfl rfl ?_
        refine WL.skip rfl rfl rfl ?_
        refine WL.skip rfl rfl rfl ?_
        refine WL.val rfl rfl rfl rfl (r_pickF rfl (ev_t rfl) ev_c) ?_
        refine WL.val rfl rfl rfl rfl (r_move rfl (ev_t rfl)) ?_
        refine WL.skip rfl rfl rfl ?_
        refine WL.skip rfl rfl rfl ?_
        refine WL.skip rfl rfl rfl ?_
        refine WL.skip rfl rfl rfl ?_
        refine WL.skip rfl rfl rfl ?_
        refine WL.skip rfl rfl rfl ?_
        refine WL.skip rfl rfl rfl ?_
        refine WL.val rfl rfl rfl rfl (r_pickF rfl (ev_t rfl) ev_c) ?_
        refine WL.val rfl rfl rfl rfl (r_assign rfl (ev_t rfl)) ?_
        refine WL.nil ?_
        refine WX.keep [(4, _)] ⟨rfl, trivial⟩ ?_
        refine WX.next ?_
        refine WC.ret ?_
        refine WX.retE1 rfl rfl ?_
        exact ⟨by simp, hU⟩
  · try (exfalso; first | (simp at hb1_5; done) | (simp only [decide_eq_true_eq, decide_eq_false_iff_not, Bool.not_eq_true', Bool.not_eq_false', Bool.not_eq_true, Bool.not_eq_false] at hb1_5; omega) | omega)
    all_goals
     try simp only [decide_eq_true_eq, decide_eq_false_iff_not, Bool.not_eq_true', Bool.not_eq_false', Bool.not_eq_true, Bool.not_eq_false, Option.isNone_none, Option.isNone_some, Option.isSome_none, Option.isSome_some, ne_eq, Decidable.not_not] at hb1_5
     refine WL.skip rfl rfl rfl ?_
     refine WL.skip rfl rfl rfl ?_
     refine WL.skip rfl rfl rfl ?_
     refine WL.skip rfl rfl rfl ?_
     refine WL.skip rfl rfl rfl ?_
     refine WL.val rfl rfl rfl rfl (r_pickF rfl (ev_t rfl) ev_c) ?_
     refine WL.val rfl rfl rfl rfl (r_move rfl (ev_t rfl)) ?_
     refine WL.skip rfl rfl rfl ?_
     refine WL.skip rfl rfl rfl ?_
     refine WL.skip rfl rfl rfl ?_
     refine WL.skip rfl rfl rfl ?_
     refine WL.skip rfl rfl rfl ?_
     refine WL.val rfl rfl rfl rfl (r_pickF rfl (ev_t rfl) ev_c) ?_
     refine WL.val rfl rfl rfl rfl (r_move rfl (ev_t rfl)) ?_
     refine WL.skip rfl rfl rfl ?_
     refine WL.skip rfl rfl rfl ?_
     refine WL.skip rfl rfl rfl ?_
     refine WL.skip rfl rfl rfl ?_
     refine WL.skip rfl rfl rfl ?_
     refine WL.skip rfl rfl rfl ?_
     refine WL.skip rfl rfl rfl ?_
     refine WL.val rfl rfl rfl rfl (r_pickF rfl (ev_t rfl) ev_c) ?_
     refine WL.val rfl rfl rfl rfl (r_assign rfl (ev_t rfl)) ?_
     refine WL.nil ?_
     refine WX.keep [(4, _)] ⟨rfl, trivial⟩ ?_
     refine WX.next ?_
     refine WC.ret ?_
     refine WX.retE1 rfl rfl ?_
     exact ⟨by simp, hU⟩

set_option maxHeartbeats 4000000 in
theorem Same14_ok {w : World} {F F' : Nat → Prop} {s : WSt} {lv lv' : Value} (h : Ents w F lv s.log) (h' : Ents w F' lv' s.log) :
    Ret Try.prog 9 #[.agg (stC s lv), .agg (stC s lv')] w fun u w' => u = .bool true ∧ Upd No w w' := by
  obtain ⟨V0, hV0, hr0, hc0⟩ := h
  obtain ⟨V1, hV1, hr1, hd1⟩ := h'
  have hl01 : V1.length = V0.length := by have := congrArg List.length (hV1.trans hV0.symm); simpa using this
  obtain ⟨A0, c0, rfl, hle0⟩ := hr0.slice_form
  obtain ⟨A1, c1, rfl, hle1⟩ := hr1.slice_form
  have hm0 := hr0.le
  refine enterRet (vs := [_, _]) (N := 53) Try.func9 rfl rfl rfl ?_
  have hU := Upd.refl No w
  refine WC.keep [(0, _), (1, _)] ⟨rfl, rfl, trivial⟩ ?_
  refine WC.seq ?_
  refine WC.region ?_
  refine WL.cons (SO.alloc rfl rfl rfl rfl (r_boxAgg rfl (ev_t rfl)) ?_)
  intro w1 hu1 hB1 hz1
  have hs1 := hu1.size
  replace hU := hU.transA hu1
  have h2 := hB1
  change Blk _ _ (stC s _) _ at h2
  refine WL.cons (SO.alloc rfl rfl rfl rfl (r_boxAgg rfl (ev_t rfl)) ?_)
  intro w2 hu2 hB2 hz2
  have hs2 := hu2.size
  replace hU := hU.transA hu2
  replace h2 := h2.upd hu2 (fun h => h)
  refine WL.val rfl rfl rfl rfl (r_assign rfl ev_c) ?_
  refine WL.nil ?_
  refine WX.keep [(2, _), (3, _)] ⟨rfl, rfl, trivial⟩ ?_
  have h3 := hB2
  change Blk _ _ (stC s _) _ at h3
  refine WX.next ?_
  refine WC.seq ?_
  refine WC.seq ?_
  refine WC.region ?_
  first | refine WL.val rfl rfl rfl rfl (r_field0 rfl (ev_t rfl) fld_31_0) ?_ | refine WL.val rfl rfl rfl rfl (r_fieldAt rfl (ev_t rfl) fld_31_0) ?_
  refine WL.val rfl rfl rfl rfl (r_load rfl (ev_t rfl) flat_29 (Blk.cell h2 rfl)) ?_
  first | refine WL.val rfl rfl rfl rfl (r_field0 rfl (ev_t rfl) fld_31_0) ?_ | refine WL.val rfl rfl rfl rfl (r_fieldAt rfl (ev_t rfl) fld_31_0) ?_
  refine WL.val rfl rfl rfl rfl (r_load rfl (ev_t rfl) flat_29 (Blk.cell h3 rfl)) ?_
  refine WL.val rfl rfl rfl rfl (r_neq rfl (ev_t rfl) (ev_t rfl)) ?_
  refine WL.val rfl rfl rfl rfl (r_move rfl (ev_t rfl)) ?_
  refine WL.cases 11 rfl (fun hb1_5 => ?_) (fun hb1_5 => ?_)
  · try (exfalso; first | (simp at hb1_5; done) | (simp only [decide_eq_true_eq, decide_eq_false_iff_not, Bool.not_eq_true', Bool.not_eq_false', Bool.not_eq_true, Bool.not_eq_false] at hb1_5; omega) | omega)
    all_goals
     try simp only [decide_eq_true_eq, decide_eq_false_iff_not, Bool.not_eq_true', Bool.not_eq_false', Bool.not_eq_true, Bool.not_eq_false, Option.isNone_none, Option.isNone_some, Option.isSome_none, Option.isSome_some, ne_eq, Decidable.not_not] at hb1_5
     refine WL.skip rfl rfl rfl ?_
     refine WL.skip rfl rfl rfl ?_
     refine WL.skip rfl rfl rfl ?_
     refine WL.skip rfl rfl rfl ?_
     refine WL.skip rfl rfl rfl ?_
     refine WL.val rfl rfl rfl rfl (r_pickT rfl (ev_t rfl) ev_c) ?_
     refine WL.val rfl rfl rfl rfl (r_move rfl (ev_t rfl)) ?_
     refine WL.skip rfl rfl rfl ?_
     refine WL.skip rfl rfl rfl ?_
     refine WL.skip rfl rfl rfl ?_
     refine WL.skip rfl rfl rfl ?_
     refine WL.skip rfl rfl rfl ?_
     refine WL.val rfl rfl rfl rfl (r_pickT rfl (ev_t rfl) ev_c) ?_
     refine WL.val rfl rfl rfl rfl (r_move rfl (ev_t rfl)) ?_
     refine WL.skip rfl rfl rfl ?_
     refine WL.skip rfl rfl rfl ?_
     refine WL.skip rfl rfl rfl ?_
     refine WL.skip rfl rfl rfl ?_
     refine WL.skip rfl rfl rfl ?_
     refine WL.skip rfl rfl rfl ?_
     refine WL.skip rfl rfl rfl ?_
     refine WL.val rfl rfl rfl rfl (r_pickT rfl (ev_t rfl) ev_c) ?_
     refine WL.nil ?_
     refine WX.keep [(2, _), (3, _), (33, _)] ⟨rfl, rfl, rfl, trivial⟩ ?_
     refine WX.next ?_
     refine WC.cond_true rfl (ev_t rfl) ?_
     refine WC.seq ?_
     refine WC.region ?_
     refine WL.val rfl rfl rfl rfl (r_assign rfl ev_c) ?_
     refine WL.nil ?_
     refine WX.keep [(4, _)] ⟨rfl, trivial⟩ ?_
     refine WX.next ?_
     refine WC.ret ?_
     refine WX.thenRet ?_
     refine WX.retE1 rfl rfl ?_
     exact ⟨rfl, hU⟩
  · try (exfalso; first | (simp at hb1_5; done) | (simp only [decide_eq_true_eq, decide_eq_false_iff_not, Bool.not_eq_true', Bool.not_eq_false', Bool.not_eq_true, Bool.not_eq_false] at hb1_5; omega) | omega)
    all_goals
     try simp only [decide_eq_true_eq, decide_eq_false_iff_not, Bool.not_eq_true', Bool.not_eq_false', Bool.not_eq_true, Bool.not_eq_false, Option.isNone_none, Option.isNone_some, Option.isSome_none, Option.isSome_some, ne_eq, Decidable.not_not] at hb1_5
     first | refine WL.val rfl rfl rfl rfl (r_field0 rfl (ev_t rfl) fld_31_1) ?_ | refine WL.val rfl rfl rfl rfl (r_fieldAt rfl (ev_t rfl) fld_31_1) ?_
     refine WL.val rfl rfl rfl rfl (r_load rfl (ev_t rfl) flat_3 (Blk.cell h2 rfl)) ?_
     first | refine WL.val rfl rfl rfl rfl (r_field0 rfl (ev_t rfl) fld_31_1) ?_ | refine WL.val rfl rfl rfl rfl (r_fieldAt rfl (ev_t rfl) fld_31_1) ?_
     refine WL.val rfl rfl rfl rfl (r_load rfl (ev_t rfl) flat_3 (Blk.cell h3 rfl)) ?_
     refine WL.val rfl rfl rfl rfl (r_neq rfl (ev_t rfl) (ev_t rfl)) ?_
     refine WL.val rfl rfl rfl rfl (r_pickF rfl (ev_t rfl) (ev_t rfl)) ?_
     refine WL.val rfl rfl rfl rfl (r_move rfl (ev_t rfl)) ?_
     refine WL.cases 18 rfl (fun hb1_12 => ?_) (fun hb1_12 => ?_)
     · try (exfalso; first | (simp at hb1_12; done) | (simp only [decide_eq_true_eq, decide_eq_false_iff_not, Bool.not_eq_true', Bool.not_eq_false', Bool.not_eq_true, Bool.not_eq_false] at hb1_12; omega) | omega)
       all_goals
        try simp only [decide_eq_true_eq, decide_eq_false_iff_not, Bool.not_eq_true', Bool.not_eq_false', Bool.not_eq_true, Bool.not_eq_false, Option.isNone_none, Option.isNone_some, Option.isSome_none, Option.isSome_some, ne_eq, Decidable.not_not] at hb1_12
        refine WL.skip rfl rfl rfl ?_
        refine WL.skip rfl rfl rfl ?_
        refine WL.skip rfl rfl rfl ?_
        refine WL.skip rfl rfl rfl ?_
        refine WL.skip rfl rfl rfl ?_
        refine WL.val rfl rfl rfl rfl (r_pickT rfl (ev_t rfl) ev_c) ?_
        refine WL.val rfl rfl rfl rfl (r_move rfl (ev_t rfl)) ?_
        refine WL.skip rfl rfl rfl ?_
        refine WL.skip rfl rfl rfl ?_
        refine WL.skip rfl rfl rfl ?_
        refine WL.skip rfl rfl rfl ?_
        refine WL.skip rfl rfl rfl ?_
        refine WL.skip rfl rfl rfl ?_
        refine WL.skip rfl rfl rfl ?_
        refine WL.val rfl rfl rfl rfl (r_pickT rfl (ev_t rfl) ev_c) ?_
        refine WL.nil ?_
        refine WX.keep [(2, _), (3, _), (33, _)] ⟨rfl, rfl, rfl, trivial⟩ ?_
        refine WX.next ?_
        refine WC.cond_true rfl (ev_t rfl) ?_
        refine WC.seq ?_
        refine WC.region ?_
        refine WL.val rfl rfl rfl rfl (r_assign rfl ev_c) ?_
        refine WL.nil ?_
        refine WX.keep [(4, _)] ⟨rfl, trivial⟩ ?_
        refine WX.next ?_
        refine WC.ret ?_
        refine WX.thenRet ?_
        refine WX.retE1 rfl rfl ?_
        exact ⟨rfl, hU⟩
     · try (exfalso; first | (simp at hb1_12; done) | (simp only [decide_eq_true_eq, decide_eq_false_iff_not, Bool.not_eq_true', Bool.not_eq_false', Bool.not_eq_true, Bool.not_eq_false] at hb1_12; omega) | omega)
       all_goals
        try simp only [decide_eq_true_eq, decide_eq_false_iff_not, Bool.not_eq_true', Bool.not_eq_false', Bool.not_eq_true, Bool.not_eq_false, Option.isNone_none, Option.isNone_some, Option.isSome_none, Option.isSome_some, ne_eq, Decidable.not_not] at hb1_12
        first | refine WL.val rfl rfl rfl rfl (r_field0 rfl (ev_t rfl) fld_31_2) ?_ | refine WL.val rfl rfl rfl rfl (r_fieldAt rfl (ev_t rfl) fld_31_2) ?_
        refine WL.val rfl rfl rfl rfl (r_load rfl (ev_t rfl) flat_29 (Blk.cell h2 rfl)) ?_
        first | refine WL.val rfl rfl rfl rfl (r_field0 rfl (ev_t rfl) fld_31_2) ?_ | refine WL.val rfl rfl rfl rfl (r_fieldAt rfl (ev_t rfl) fld_31_2) ?_
        refine WL.val rfl rfl rfl rfl (r_load rfl (ev_t rfl) flat_29 (Blk.cell h3 rfl)) ?_
        refine WL.val rfl rfl rfl rfl (r_neq rfl (ev_t rfl) (ev_t rfl)) ?_
        refine WL.val rfl rfl rfl rfl (r_pickF rfl (ev_t rfl) (ev_t rfl)) ?_
        refine WL.val rfl rfl rfl rfl (r_move rfl (ev_t rfl)) ?_
        refine WL.cases 25 rfl (fun hb1_19 => ?_) (fun hb1_19 => ?_)
        · try (exfalso; first | (simp at hb1_19; done) | (simp only [decide_eq_true_eq, decide_eq_false_iff_not, Bool.not_eq_true', Bool.not_eq_false', Bool.not_eq_true, Bool.not_eq_false] at hb1_19; omega) | omega)
          all_goals
           try simp only [decide_eq_true_eq, decide_eq_false_iff_not, Bool.not_eq_true', Bool.not_eq_false', Bool.not_eq_true, Bool.not_eq_false, Option.isNone_none, Option.isNone_some, Option.isSome_none, Option.isSome_some, ne_eq, Decidable.not_not] at hb1_19
           refine WL.skip rfl rfl rfl ?_
           refine WL.skip rfl rfl rfl ?_
           refine WL.skip rfl rfl rfl ?_
           refine WL.skip rfl rfl rfl ?_
           refine WL.skip rfl rfl rfl ?_
           refine WL.skip rfl rfl rfl ?_
           refine WL.skip rfl rfl rfl ?_
           refine WL.val rfl rfl rfl rfl (r_pickT rfl (ev_t rfl) ev_c) ?_
           refine WL.nil ?_
           refine WX.keep [(2, _), (3, _), (33, _)] ⟨rfl, rfl, rfl, trivial⟩ ?_
           refine WX.next ?_
           refine WC.cond_true rfl (ev_t rfl) ?_
           refine WC.seq ?_
           refine WC.region ?_
           refine WL.val rfl rfl rfl rfl (r_assign rfl ev_c) ?_
           refine WL.nil ?_
           refine WX.keep [(4, _)] ⟨rfl, trivial⟩ ?_
           refine WX.next ?_
           refine WC.ret ?_
           refine WX.thenRet ?_
           refine WX.retE1 rfl rfl ?_
           exact ⟨rfl, hU⟩
        · try (exfalso; first | (simp at hb1_19; done) | (simp only [decide_eq_true_eq, decide_eq_false_iff_not, Bool.not_eq_true', Bool.not_eq_false', Bool.not_eq_true, Bool.not_eq_false] at hb1_19; omega) | omega)
          all_goals
           try simp only [decide_eq_true_eq, decide_eq_false_iff_not, Bool.not_eq_true', Bool.not_eq_false', Bool.not_eq_true, Bool.not_eq_false, Option.isNone_none, Option.isNone_some, Option.isSome_none, Option.isSome_some, ne_eq, Decidable.not_not] at hb1_19
           first | refine WL.val rfl rfl rfl rfl (r_field0 rfl (ev_t rfl) fld_31_3) ?_ | refine WL.val rfl rfl rfl rfl (r_fieldAt rfl (ev_t rfl) fld_31_3) ?_
           refine WL.val rfl rfl rfl rfl (r_load rfl (ev_t rfl) flat_28 (Blk.cell h2 rfl)) ?_
           refine WL.val rfl rfl rfl rfl (r_lenSlice (ts := #[]) rfl (ev_t rfl) elem_28) ?_
           first | refine WL.val rfl rfl rfl rfl (r_field0 rfl (ev_t rfl) fld_31_3) ?_ | refine WL.val rfl rfl rfl rfl (r_fieldAt rfl (ev_t rfl) fld_31_3) ?_
           refine WL.val rfl rfl rfl rfl (r_load rfl (ev_t rfl) flat_28 (Blk.cell h3 rfl)) ?_
           refine WL.val rfl rfl rfl rfl (r_lenSlice (ts := #[]) rfl (ev_t rfl) elem_28) ?_
           refine WL.val rfl rfl rfl rfl (r_neq rfl (ev_t rfl) (ev_t rfl)) ?_
           refine WL.val rfl rfl rfl rfl (r_pickF rfl (ev_t rfl) (ev_t rfl)) ?_
           refine WL.nil ?_
           refine WX.keep [(2, _), (3, _), (33, _)] ⟨rfl, rfl, rfl, trivial⟩ ?_
           refine WX.next ?_
           refine WC.cond rfl (ev_t rfl) (fun hc1 => ?_) (fun hc1 => ?_)
           · try simp only [decide_eq_true_eq, decide_eq_false_iff_not, Bool.not_eq_true', Bool.not_eq_false', Bool.not_eq_true, Bool.not_eq_false, Option.isNone_none, Option.isNone_some, Option.isSome_none, Option.isSome_some, ne_eq, Decidable.not_not] at hc1
             exfalso
             simp_all
           · try (exfalso; first | (simp at hc1; done) | (simp only [decide_eq_true_eq, decide_eq_false_iff_not, Bool.not_eq_true', Bool.not_eq_false', Bool.not_eq_true, Bool.not_eq_false] at hc1; omega) | omega)
             all_goals
              try simp only [decide_eq_true_eq, decide_eq_false_iff_not, Bool.not_eq_true', Bool.not_eq_false', Bool.not_eq_true, Bool.not_eq_false, Option.isNone_none, Option.isNone_some, Option.isSome_none, Option.isSome_some, ne_eq, Decidable.not_not] at hc1
              refine WC.skip ?_
              refine WX.next ?_
              refine WC.seq ?_
              refine WC.seq ?_
              refine WC.region ?_
              refine WL.val rfl rfl rfl rfl (r_assign rfl ev_c) ?_
              refine WL.nil ?_
              refine WX.keep [(2, _), (3, _), (5, _)] ⟨rfl, rfl, rfl, trivial⟩ ?_
              obtain ⟨b2, hb2⟩ : ∃ q, w.heap.size = q := ⟨_, rfl⟩
              obtain ⟨b3, hb3⟩ : ∃ q, w1.heap.size = q := ⟨_, rfl⟩
              rw [hb2] at h2 ⊢
              rw [hb3] at h3 ⊢
              refine WX.next ?_
              refine WC.block ?_
              -- loop 1: live [2, 3, 5]
              refine WC.keep [(2, _), (3, _), (5, _)] ⟨rfl, rfl, rfl, trivial⟩ ?_
              refine WC.loop (fun qq E wC => ∃ j : Nat, j ≤ V0.length ∧ qq = V0.length - j ∧ Upd No w wC ∧ Blk wC b2 (stC s (.slice A0 V0.length c0)) 31 ∧ Blk wC b3 (stC s (.slice A1 V1.length c1)) 31 ∧ E = [(2, .pointer (some ⟨b2, 0, none⟩)), (3, .pointer (some ⟨b3, 0, none⟩)), (5, .int .i64 (j : Int))]) (V0.length) ?_ ?_
              · exact ⟨0, by omega, by omega, hU, h2, h3, rfl⟩
              · clear hU h2 h3
                rintro qq E wC ⟨j, hj, rfl, hU, h2, h3, rfl⟩
                refine WC.seq ?_
                refine WC.seq ?_
                refine WC.region ?_
                refine WL.val rfl rfl rfl rfl (r_move rfl (ev_t rfl)) ?_
                first | refine WL.val rfl rfl rfl rfl (r_field0 rfl (ev_t rfl) fld_31_3) ?_ | refine WL.val rfl rfl rfl rfl (r_fieldAt rfl (ev_t rfl) fld_31_3) ?_
                refine WL.val rfl rfl rfl rfl (r_load rfl (ev_t rfl) flat_28 (Blk.cell h2 rfl)) ?_
                refine WL.val rfl rfl rfl rfl (r_lenSlice (ts := #[]) rfl (ev_t rfl) elem_28) ?_
                refine WL.val rfl rfl rfl rfl (r_lss rfl (ev_t rfl) (ev_t rfl)) ?_
                refine WL.nil ?_
                refine WX.keep [(2, _), (3, _), (5, _), (38, _)] ⟨rfl, rfl, rfl, rfl, trivial⟩ ?_
                refine WX.next ?_
                refine WC.cond rfl (ev_t rfl) (fun hc4 => ?_) (fun hc4 => ?_)
                · try (exfalso; first | (simp at hc4; done) | (simp only [decide_eq_true_eq, decide_eq_false_iff_not, Bool.not_eq_true', Bool.not_eq_false', Bool.not_eq_true, Bool.not_eq_false] at hc4; omega) | omega)
                  all_goals
                   try simp only [decide_eq_true_eq, decide_eq_false_iff_not, Bool.not_eq_true', Bool.not_eq_false', Bool.not_eq_true, Bool.not_eq_false, Option.isNone_none, Option.isNone_some, Option.isSome_none, Option.isSome_some, ne_eq, Decidable.not_not] at hc4
                   have hjl : j < V0.length := by omega
                   have hgj : V0[j]? = some V0[j] := List.getElem?_eq_getElem hjl
                   have hgk : V1[j]? = some (V1[j]'(by omega)) := List.getElem?_eq_getElem (by omega)
                   have hmj : V0[j] ∈ V0 := List.getElem_mem hjl
                   have hmk : V1[j]'(by omega) ∈ V1 := List.getElem_mem (by omega)
                   generalize V0[j] = r at hgj hmj
                   generalize V1[j]'(by omega) = r' at hgk hmk
                   obtain ⟨rx, rv⟩ := r
                   obtain ⟨rx', rv'⟩ := r'
                   have hxx : rx = rx' := by
                     have e1 : (V0.map EnV.x)[j]? = some rx := by rw [List.getElem?_map, hgj]; rfl
                     have e2 : (V1.map EnV.x)[j]? = some rx' := by rw [List.getElem?_map, hgk]; rfl
                     rw [hV0] at e1
                     rw [hV1, e1] at e2
                     injection e2
                   subst hxx
                   obtain ⟨b0, off, rfl, _⟩ := hr0.open (by omega)
                   obtain ⟨b1, off1, rfl, _⟩ := hr1.open (by omega)
                   have hcd := hc0 _ hmj
                   have hce := hd1 _ hmk
                   refine WC.skip ?_
                   refine WX.next ?_
                   refine WC.seq ?_
                   refine WC.block ?_
                   refine WC.seq ?_
                   refine WC.draws' (fun u0_ u1_ => Upd No u0_ u1_) (fun j => [0, 0, 0, 0, 0, 0, 1, 0, 0, 1, 2, 0].getD j 0) (.calm 0 (.calm 2 (.calm 5 (.calm 7 (.held 1 (.calm 3 (.held 4 (.one 6 (.calm 8 (.one 9 (.one 10 (.calm 11 (.done))))))))))))) mixed (by kernel_rfl) (by repeat (first | with_reducible exact Deaf.body | with_reducible apply Deaf.then | with_reducible apply Deaf.block)) ?_
                   intro w3 hu3
                   have hz3 := congrArg Array.size hu3.2.2.2
                   replace hu3 := Upd.of_draw hu3
                   have hs3 := hu3.size
                   replace hU := hU.transA hu3
                   replace h2 := h2.upd hu3 (fun h => h)
                   replace h3 := h3.upd hu3 (fun h => h)
                   have hS6 := Upd.refl No w3
                   first | refine WN.calm _ rfl rfl rfl rfl rfl (fun _ => r_field0 rfl (ev_t rfl) fld_31_3) ?_ | refine WN.calm _ rfl rfl rfl rfl rfl (fun _ => r_fieldAt rfl (ev_t rfl) fld_31_3) ?_
                   refine WN.calm _ rfl rfl rfl rfl rfl (fun _ => r_move rfl (ev_t rfl)) ?_
                   first | refine WN.calm _ rfl rfl rfl rfl rfl (fun _ => r_field0 rfl (ev_t rfl) fld_31_3) ?_ | refine WN.calm _ rfl rfl rfl rfl rfl (fun _ => r_fieldAt rfl (ev_t rfl) fld_31_3) ?_
                   refine WN.calm _ rfl rfl rfl rfl rfl (fun _ => r_move rfl (ev_t rfl)) ?_
                   refine WN.held _ rfl rfl rfl rfl rfl hS6 (fun w' hS => r_load rfl (ev_t rfl) flat_28 (Blk.cell (h2.upd hS (fun h => h)) rfl)) ?_
                   refine WN.calm _ rfl rfl rfl rfl rfl (fun _ => r_indexAddr rfl (ev_t rfl) (ev_t rfl) elem_28 size_33 (by omega) (by omega)) ?_
                   refine WN.held _ rfl rfl rfl rfl rfl hS6 (fun w' hS => r_loadAgg (vs := [_, _, _, _]) rfl (ev_t rfl) agg_33 size_33 (Rd.cellsL (us := EnV.cells ⟨rx, _⟩) ((hr0.upd hU (fun _ _ _ h => h)).upd hS (fun _ _ _ h => h)) (i := j * 4) (by omega) (fun q v hv => EnV.flat_get hgj hv))) ?_
                   refine WN.step _ rfl (SO.val rfl rfl rfl rfl (r_load rfl (ev_t rfl) flat_28 (Blk.cell h3 rfl)) ?_)
                   refine ⟨hS6, ?_⟩
                   refine WN.calm _ rfl rfl rfl rfl rfl (fun _ => r_indexAddr rfl (ev_t rfl) (ev_t rfl) elem_28 size_33 (by omega) (by omega)) ?_
                   refine WN.step _ rfl (SO.val rfl rfl rfl rfl (r_loadAgg (vs := [_, _, _, _]) rfl (ev_t rfl) agg_33 size_33 (Rd.cellsL (us := EnV.cells ⟨rx, _⟩) (hr1.upd hU (fun _ _ _ h => h)) (i := j * 4) (by omega) (fun q v hv => EnV.flat_get hgk hv))) ?_)
                   refine ⟨hS6, ?_⟩
                   refine WN.step _ rfl (SO.call (SameEntry_ok (hcd.upd hU (fun _ _ _ h => h)) (hce.upd hU (fun _ _ _ h => h))) rfl body_21 ⟨(ev_t rfl), (ev_t rfl), trivial⟩ rfl rfl rfl rfl ?_)
                   rintro v9 w4 ⟨rfl, hu4⟩
                   have hs4 := hu4.size
                   try replace hS6 := Upd.transA hS6 hu4
                   replace hU := hU.transA hu4
                   replace h2 := h2.upd hu4 (fun h => h)
                   replace h3 := h3.upd hu4 (fun h => h)
                   refine ⟨trivial, ?_⟩
                   refine WN.calm _ rfl rfl rfl rfl rfl (fun _ => r_not rfl (ev_t rfl)) ?_
                   refine WN.done ?_
                   refine WX.keep [(2, _), (3, _), (5, _), (52, _)] ⟨rfl, rfl, rfl, rfl, trivial⟩ ?_
                   refine WX.next ?_
                   refine WC.cond rfl (ev_t rfl) (fun hc6 => ?_) (fun hc6 => ?_)
                   · try (exfalso; first | (simp at hc6; done) | (simp only [decide_eq_true_eq, decide_eq_false_iff_not, Bool.not_eq_true', Bool.not_eq_false', Bool.not_eq_true, Bool.not_eq_false] at hc6; omega) | omega)
                     all_goals
                      try simp only [decide_eq_true_eq, decide_eq_false_iff_not, Bool.not_eq_true', Bool.not_eq_false', Bool.not_eq_true, Bool.not_eq_false, Option.isNone_none, Option.isNone_some, Option.isSome_none, Option.isSome_some, ne_eq, Decidable.not_not] at hc6
                      refine WC.seq ?_
                      refine WC.region ?_
                      refine WL.val rfl rfl rfl rfl (r_assign rfl ev_c) ?_
                      refine WL.nil ?_
                      refine WX.keep [(4, _)] ⟨rfl, trivial⟩ ?_
                      refine WX.next ?_
                      refine WC.ret ?_
                      refine WX.blockRet ?_
                      refine WX.thenRet ?_
                      refine WX.thenRet ?_
                      refine WX.blockRet ?_
                      refine WX.thenRet ?_
                      refine WX.retE1 rfl rfl ?_
                      exact ⟨rfl, hU⟩
                   · try (exfalso; first | (simp at hc6; done) | (simp only [decide_eq_true_eq, decide_eq_false_iff_not, Bool.not_eq_true', Bool.not_eq_false', Bool.not_eq_true, Bool.not_eq_false] at hc6; omega) | omega)
                     all_goals
                      try simp only [decide_eq_true_eq, decide_eq_false_iff_not, Bool.not_eq_true', Bool.not_eq_false', Bool.not_eq_true, Bool.not_eq_false, Option.isNone_none, Option.isNone_some, Option.isSome_none, Option.isSome_some, ne_eq, Decidable.not_not] at hc6
                      refine WC.skip ?_
                      refine WX.blockNormal ?_
                      refine WX.next ?_
                      refine WC.region ?_
                      refine WL.val rfl rfl rfl rfl (r_move rfl (ev_t rfl)) ?_
                      first | refine WL.val rfl rfl rfl rfl (r_addN rfl (ev_t rfl) ev_c (by simp only [inK]; omega)) ?_ | refine WL.val rfl rfl rfl rfl (r_add rfl (ev_t rfl) ev_c) ?_
                      refine WL.val rfl rfl rfl rfl (r_assign rfl (ev_t rfl)) ?_
                      refine WL.nil ?_
                      refine WX.keep [(2, _), (3, _), (5, _)] ⟨rfl, rfl, rfl, trivial⟩ ?_
                      refine WX.meet [(2, _), (3, _), (5, _)] ⟨rfl, rfl, rfl, trivial⟩ ?_
                      exact ⟨V0.length - (j + 1), by omega, j + 1, by omega, rfl, hU, h2, h3, rfl⟩
                · try (exfalso; first | (simp at hc4; done) | (simp only [decide_eq_true_eq, decide_eq_false_iff_not, Bool.not_eq_true', Bool.not_eq_false', Bool.not_eq_true, Bool.not_eq_false] at hc4; omega) | omega)
                  all_goals
                   try simp only [decide_eq_true_eq, decide_eq_false_iff_not, Bool.not_eq_true', Bool.not_eq_false', Bool.not_eq_true, Bool.not_eq_false, Option.isNone_none, Option.isNone_some, Option.isSome_none, Option.isSome_some, ne_eq, Decidable.not_not] at hc4
                   refine WC.exit ?_
                   refine WX.thenExit ?_
                   refine WX.thenExit ?_
                   refine WX.blockHere ?_
                   refine WX.next ?_
                   refine WC.seq ?_
                   refine WC.region ?_
                   refine WL.val rfl rfl rfl rfl (r_assign rfl ev_c) ?_
                   refine WL.nil ?_
                   refine WX.keep [(4, _)] ⟨rfl, trivial⟩ ?_
                   refine WX.next ?_
                   refine WC.ret ?_
                   refine WX.retE1 rfl rfl ?_
                   exact ⟨rfl, hU⟩

set_option maxHeartbeats 2000000 in
theorem state_ok {w : World} {F : Nat → Prop} {p d : Nat} {D : DS} {a side : Int} {turn : Nat} {s : WSt} (hW : IsWal w F p d D a side turn s) (hl : s.log.length ≤ 1000) (hcl : ∀ x ∈ s.log, x.cell.length ≤ 100000) :
    Ret Try.prog 10 #[.pointer (some ⟨p, 0, none⟩)] w fun u w' => ∃ lv', u = .agg (stC s lv') ∧ DEnts w' (New w w') lv' s.log ∧ Upd No w w' := by
  obtain ⟨R, G, lv, hB, hD, hE, hFp, hR, hG⟩ := hW
  refine enterRet (vs := [_]) (N := 15) Try.func10 rfl rfl rfl ?_
  have hU := Upd.refl No w
  refine WC.keep [(0, _)] ⟨rfl, trivial⟩ ?_
  refine WC.seq ?_
  refine WC.region ?_
  refine WL.cons (SO.alloc rfl rfl rfl rfl (r_alloc rfl zero_31) ?_)
  intro w1 hu1 hB1 hz1
  have hs1 := hu1.size
  replace hU := hU.trans hu1 (by first | exact (fun _ _ h => h) | exact (fun _ _ h => h.elim) | (intro k hl hk; (try simp only [At, New, Grow, From, No] at hk ⊢); omega) | (intro k hl hk; simp only [At, No] at *; omega))
  refine WL.nil ?_
  refine WX.keep [(0, _), (2, _)] ⟨rfl, rfl, trivial⟩ ?_
  have h2 := hB1
  refine WX.next ?_
  refine WC.seq ?_
  refine WC.region ?_
  refine WL.val rfl rfl rfl rfl (r_move rfl (ev_t rfl)) ?_
  refine WL.cons (SO.call (WState_ok (hB.upd hU (fun h => h)) (hE.upd hU (fun _ _ _ h => h)) hl hcl) rfl body_8 ⟨(ev_t rfl), trivial⟩ rfl rfl rfl rfl ?_)
  rintro v9 w2 ⟨lv', rfl, hDE, hu2⟩
  obtain ⟨Al, cl, rfl, hcl9⟩ := hDE.form
  have hDE := hDE.mono (F' := fun k => w.heap.size < k ∧ k < w2.heap.size) (fun k hk hl => by simp only [New] at *; omega)
  have hs2 := hu2.size
  replace hU := hU.trans hu2 (by first | exact (fun _ _ h => h) | exact (fun _ _ h => h.elim) | (intro k hl hk; (try simp only [At, New, Grow, From, No] at hk ⊢); omega) | (intro k hl hk; simp only [At, No] at *; omega))
  replace h2 := h2.upd hu2 (by first | exact (fun h => h) | (simp only [At]; omega))
  refine WL.cons (SO.alloc rfl rfl rfl rfl (r_alloc rfl zero_36) ?_)
  intro w3 hu3 hB3 hz3
  have hs3 := hu3.size
  replace hU := hU.trans hu3 (by first | exact (fun _ _ h => h) | exact (fun _ _ h => h.elim) | (intro k hl hk; (try simp only [At, New, Grow, From, No] at hk ⊢); omega) | (intro k hl hk; simp only [At, No] at *; omega))
  replace h2 := h2.upd hu3 (by first | exact (fun h => h) | (simp only [At]; omega))
  replace hDE := hDE.upd hu3 (by first | exact (fun _ _ _ h => h) | (intro k hk hl hS; simp only [At, New] at hk hS; omega))
  refine WL.cons (SO.storeAll (us := [_, _, _, _]) rfl (ev_t rfl) (ev_t rfl) size_36 hB3 rfl rfl rfl rfl rfl ?_)
  intro w4 hu4 hB3 hz4
  have hs4 := hu4.size
  replace hU := hU.trans hu4 (by first | exact (fun _ _ h => h) | exact (fun _ _ h => h.elim) | (intro k hl hk; (try simp only [At, New, Grow, From, No] at hk ⊢); omega) | (intro k hl hk; simp only [At, No] at *; omega))
  replace h2 := h2.upd hu4 (by first | exact (fun h => h) | (simp only [At]; omega))
  replace hDE := hDE.upd hu4 (by first | exact (fun _ _ _ h => h) | (intro k hk hl hS; simp only [At, New] at hk hS; omega))
  refine WL.nil ?_
  refine WX.keep [(2, _), (3, _)] ⟨rfl, rfl, trivial⟩ ?_
  have h3 := hB3
  change Blk _ _ (stC s _) _ at h3
  refine WX.next ?_
  refine WC.seq ?_
  refine WC.region ?_
  first | refine WL.val rfl rfl rfl rfl (r_field0 rfl (ev_t rfl) fld_36_0) ?_ | refine WL.val rfl rfl rfl rfl (r_fieldAt rfl (ev_t rfl) fld_36_0) ?_
  refine WL.val rfl rfl rfl rfl (r_load rfl (ev_t rfl) flat_29 (Blk.cell h3 rfl)) ?_
  first | refine WL.val rfl rfl rfl rfl (r_field0 rfl (ev_t rfl) fld_36_1) ?_ | refine WL.val rfl rfl rfl rfl (r_fieldAt rfl (ev_t rfl) fld_36_1) ?_
  refine WL.val rfl rfl rfl rfl (r_load rfl (ev_t rfl) flat_3 (Blk.cell h3 rfl)) ?_
  first | refine WL.val rfl rfl rfl rfl (r_field0 rfl (ev_t rfl) fld_36_2) ?_ | refine WL.val rfl rfl rfl rfl (r_fieldAt rfl (ev_t rfl) fld_36_2) ?_
  refine WL.val rfl rfl rfl rfl (r_load rfl (ev_t rfl) flat_29 (Blk.cell h3 rfl)) ?_
  first | refine WL.val rfl rfl rfl rfl (r_field0 rfl (ev_t rfl) fld_36_3) ?_ | refine WL.val rfl rfl rfl rfl (r_fieldAt rfl (ev_t rfl) fld_36_3) ?_
  refine WL.val rfl rfl rfl rfl (r_load rfl (ev_t rfl) flat_28 (Blk.cell h3 rfl)) ?_
  refine WL.val rfl rfl rfl rfl (r_build (cs := #[_, _, _, _]) (vs := [(0, _), (1, _), (2, _), (3, _)]) rfl ⟨⟨rfl, (ev_t rfl)⟩, ⟨rfl, (ev_t rfl)⟩, ⟨rfl, (ev_t rfl)⟩, ⟨rfl, (ev_t rfl)⟩, trivial⟩ plc_31 zero_31 rfl) ?_
  refine WL.cons (SO.storeAll (us := [_, _, _, _]) rfl (ev_t rfl) (ev_t rfl) size_31 h2 rfl rfl rfl rfl rfl ?_)
  intro w5 hu5 h2 hz5
  have hs5 := hu5.size
  replace hU := hU.trans hu5 (by first | exact (fun _ _ h => h) | exact (fun _ _ h => h.elim) | (intro k hl hk; (try simp only [At, New, Grow, From, No] at hk ⊢); omega) | (intro k hl hk; simp only [At, No] at *; omega))
  replace hDE := hDE.upd hu5 (by first | exact (fun _ _ _ h => h) | (intro k hk hl hS; simp only [At, New] at hk hS; omega))
  replace h3 := h3.updA hu5
  refine WL.nil ?_
  refine WX.keep [(2, _)] ⟨rfl, trivial⟩ ?_
  refine WX.next ?_
  refine WC.ret ?_
  refine WX.retC (vs := [_, _, _, _]) rfl rfl agg_31 size_31 (Blk.cellsL h2) ?_
  exact ⟨_, rfl, hDE.mono fun k hk hl => by simp only [New] at *; omega, hU⟩

theorem open14_ok {w : World} {m : Nat} (hm : 102 ≤ m ∧ m ≤ 1048576) :
    Ret Try.prog 6 #[.int .i64 (m : Int)] w fun u w' => ∃ d p D, u = .tuple #[.pointer (some ⟨d, 0, none⟩), .pointer (some ⟨p, 0, none⟩)] ∧ IsWal w' (New w w') p d D 1 1 1 st0 ∧ QD D 3 m (putA (fun _ => []) 2 (allB 0 (-1) 0 1)) ∧ Upd No w w' := by
  refine enterRet (vs := [_]) (N := 23) Try.func6 rfl rfl rfl ?_
  have hU := Upd.refl No w
  refine WC.keep [(0, _)] ⟨rfl, trivial⟩ ?_
  refine WC.seq ?_
  refine WC.region ?_
  refine WL.val rfl rfl rfl rfl (r_assign rfl ev_c) ?_
  refine WL.val rfl rfl rfl rfl (r_assign rfl ev_c) ?_
  refine WL.nil ?_
  refine WX.keep [(0, _)] ⟨rfl, trivial⟩ ?_
  refine WX.next ?_
  refine WC.seq ?_
  refine WC.region ?_
  refine WL.val rfl rfl rfl rfl (r_move rfl (ev_t rfl)) ?_
  refine WL.cons (SO.call (Dnew_ok (n := 3) (most := (m : Int)) (by omega) (by omega)) rfl body_15 ⟨ev_c, (ev_t rfl), trivial⟩ rfl rfl rfl rfl ?_)
  rintro v9 w1 ⟨d, rfl, hD, hu1⟩
  have hs1 := hu1.size
  replace hU := hU.trans hu1 (by first | exact (fun _ _ h => h) | exact (fun _ _ h => h.elim) | (intro k hl hk; (try simp only [At, New, Grow, From, No] at hk ⊢); omega) | (intro k hl hk; simp only [At, No, New] at *; omega))
  refine WL.val rfl rfl rfl rfl (r_move rfl (ev_t rfl)) ?_
  refine WL.val rfl rfl rfl rfl (r_extract rfl (ev_t rfl) rfl) ?_
  refine WL.val rfl rfl rfl rfl (r_extract rfl (ev_t rfl) rfl) ?_
  refine WL.val rfl rfl rfl rfl (r_assign rfl (ev_t rfl)) ?_
  refine WL.val rfl rfl rfl rfl (r_assign rfl (ev_t rfl)) ?_
  refine WL.nil ?_
  refine WX.keep [(4, _)] ⟨rfl, trivial⟩ ?_
  refine WX.next ?_
  refine WC.seq ?_
  refine WC.region ?_
  refine WL.val rfl rfl rfl rfl (r_move rfl (ev_t rfl)) ?_
  refine WL.cons (SO.call (Open_ok (a := 1) (n := 0) (A := fun _ => 0) (S := fun _ => st0) (N := fun _ => 0) hD (QD.new 3 m) (by omega) (by omega) hm.1 rfl rfl rfl rfl (fun j hj => by omega) rfl (by simp) (.inl rfl)) rfl body_14 ⟨(ev_t rfl), ev_c, trivial⟩ rfl rfl rfl rfl ?_)
  rintro v9 w2 ⟨p, turn, s, D', T', rfl, hW, hQ, hu2, hp, hc⟩
  obtain ⟨_, rfl, rfl, rfl⟩ : (0 = 0) ∧ turn = 1 ∧ s = st0 ∧ T' = putA (fun _ => []) (1 + 1) (allB 0 (-1) 0 1) := by
    rcases hc with h | h
    · exact h
    · exact absurd h.1 (by simp)
  have hszz := hU.size
  have hs2 := hu2.size
  replace hU := hU.trans hu2 (by first | exact (fun _ _ h => h) | exact (fun _ _ h => h.elim) | (intro k hl hk; (try simp only [At, New, Grow, From, No] at hk ⊢); omega) | (intro k hl hk; simp only [At, No, New] at *; omega))
  refine WL.val rfl rfl rfl rfl (r_move rfl (ev_t rfl)) ?_
  refine WL.val rfl rfl rfl rfl (r_extract rfl (ev_t rfl) rfl) ?_
  refine WL.val rfl rfl rfl rfl (r_extract rfl (ev_t rfl) rfl) ?_
  refine WL.val rfl rfl rfl rfl (r_assign rfl (ev_t rfl)) ?_
  refine WL.val rfl rfl rfl rfl (r_assign rfl (ev_t rfl)) ?_
  refine WL.nil ?_
  refine WX.keep [(4, _), (6, _), (7, _)] ⟨rfl, rfl, rfl, trivial⟩ ?_
  refine WX.next ?_
  refine WC.seq ?_
  refine WC.seq ?_
  refine WC.region ?_
  refine WL.val rfl rfl rfl rfl (r_move rfl (ev_t rfl)) ?_
  refine WL.val rfl rfl rfl rfl (r_neq rfl (ev_t rfl) ev_c) ?_
  refine WL.nil ?_
  refine WX.keep [(4, _), (6, _), (19, _)] ⟨rfl, rfl, rfl, trivial⟩ ?_
  refine WX.next ?_
  refine WC.cond rfl (ev_t rfl) (fun hc3 => ?_) (fun hc3 => ?_)
  · try (exfalso; first | (simp at hc3; done) | (simp only [decide_eq_true_eq, decide_eq_false_iff_not, Bool.not_eq_true', Bool.not_eq_false', Bool.not_eq_true, Bool.not_eq_false] at hc3; omega) | omega)
    all_goals
     try simp only [decide_eq_true_eq, decide_eq_false_iff_not, Bool.not_eq_true', Bool.not_eq_false', Bool.not_eq_true, Bool.not_eq_false, Option.isNone_none, Option.isNone_some, Option.isSome_none, Option.isSome_some, ne_eq, Decidable.not_not] at hc3
     refine WC.seq ?_
     refine WC.region ?_
     refine WL.val rfl rfl rfl rfl (r_move rfl (ev_t rfl)) ?_
     refine WL.val rfl rfl rfl rfl (r_assign rfl (ev_t rfl)) ?_
     refine WL.val rfl rfl rfl rfl (r_assign rfl ev_c) ?_
     refine WL.nil ?_
     refine WX.keep [(2, _), (3, _)] ⟨rfl, rfl, trivial⟩ ?_
     refine WX.next ?_
     refine WC.ret ?_
     refine WX.thenRet ?_
     refine WX.retE2 rfl rfl rfl ?_
     exact ⟨_, _, _, rfl, hW.mono fun k hk hl => by simp only [Grow, New] at *; omega, hQ, hU⟩
  · try (exfalso; first | (simp at hc3; done) | (simp only [decide_eq_true_eq, decide_eq_false_iff_not, Bool.not_eq_true', Bool.not_eq_false', Bool.not_eq_true, Bool.not_eq_false] at hc3; omega) | omega)
    all_goals
     try simp only [decide_eq_true_eq, decide_eq_false_iff_not, Bool.not_eq_true', Bool.not_eq_false', Bool.not_eq_true, Bool.not_eq_false, Option.isNone_none, Option.isNone_some, Option.isSome_none, Option.isSome_some, ne_eq, Decidable.not_not] at hc3
     refine WC.skip ?_
     refine WX.next ?_
     refine WC.seq ?_
     refine WC.region ?_
     refine WL.val rfl rfl rfl rfl (r_move rfl (ev_t rfl)) ?_
     refine WL.val rfl rfl rfl rfl (r_move rfl (ev_t rfl)) ?_
     refine WL.val rfl rfl rfl rfl (r_assign rfl (ev_t rfl)) ?_
     refine WL.val rfl rfl rfl rfl (r_assign rfl (ev_t rfl)) ?_
     refine WL.nil ?_
     refine WX.keep [(2, _), (3, _)] ⟨rfl, rfl, trivial⟩ ?_
     refine WX.next ?_
     refine WC.ret ?_
     refine WX.retE2 rfl rfl rfl ?_
     exact ⟨_, _, _, rfl, hW.mono fun k hk hl => by simp only [Grow, New] at *; omega, hQ, hU⟩
end Go.Proofs.Ytnjfhmlfpfkllaa

/-
  A slice written out: two elements of four cells.
-/
namespace Go.Proofs.Ytnjfhmlfpfkllaa
open Go
set_option linter.unusedSimpArgs false
set_option linter.unusedVariables false

theorem fill_44 {c : Array Value} (hc : c.size = 8) (a0 a1 a2 a3 b0 b1 b2 b3 : Value) :
    Instr.fill (fun i => some (i * 4, 4)) c [(0, .agg #[a0, a1, a2, a3]), (1, .agg #[b0, b1, b2, b3])] = some #[a0, a1, a2, a3, b0, b1, b2, b3] := by
  have e : ∀ (d : Array Value) (u0 u1 u2 u3 : Value) (k : Nat), (#[u0, u1, u2, u3].zipIdx.foldl (fun cs (x : Value × Nat) => cs.setIfInBounds (k + x.2) x.1) d) = (((d.setIfInBounds (k + 0) u0).setIfInBounds (k + 1) u1).setIfInBounds (k + 2) u2).setIfInBounds (k + 3) u3 := fun d u0 u1 u2 u3 k => rfl
  obtain ⟨l⟩ := c
  match l, hc with
  | [c0, c1, c2, c3, c4, c5, c6, c7], _ =>
    have hA : ∀ u0 u1 u2 u3 : Value, (Value.agg #[u0, u1, u2, u3]).cells = #[u0, u1, u2, u3] := fun _ _ _ _ => by simp [Value.cells]
    simp [Instr.fill, hA]

section
variable {P : Program} {E : Env} {o : Oper} {w : World}
theorem r_buildSlice44 {t e : TypeId} {by_ : Nat} {z : Value} {x y : Operand} {a0 a1 a2 a3 b0 b1 b2 b3 : Value} (ho : o.op = .buildSlice t 2 #[(0, x), (1, y)]) (hx : Env.ev E x = .agg #[a0, a1, a2, a3]) (hy : Env.ev E y = .agg #[b0, b1, b2, b3]) (hr : RowT P t e 4 by_ z) :
    (execOp (Env.ev E) o).run P w = .ok (.value (.slice (some ⟨w.heap.size, 0, none⟩) 2 2)) (w.alloc (.cells #[a0, a1, a2, a3, b0, b1, b2, b3] e)) := by
  refine r_buildSlice (vs := [(0, .agg #[a0, a1, a2, a3]), (1, .agg #[b0, b1, b2, b3])]) ho ⟨⟨rfl, hx⟩, ⟨rfl, hy⟩, trivial⟩ hr rfl ?_
  refine fill_44 ?_ _ _ _ _ _ _ _ _
  simp [rowCells, hr.cells]
end
end Go.Proofs.Ytnjfhmlfpfkllaa

/-
  Law 14: the document's example.
-/
namespace Go.Proofs.Ytnjfhmlfpfkllaa
open Go
set_option linter.unusedSimpArgs false
set_option linter.unusedVariables false

theorem entB_lenC {c : Nat} (hc : c ≤ 4000) : ∀ (l : List En) (i : Nat), i + l.length < 18446744073709551616 → (∀ x ∈ l, x.ok ∧ x.cell.length ≤ c) → (entB i l).length ≤ l.length * (c + 70)
  | [], i, _, _ => by simp [entB]
  | x :: l, i, hi, h => by
    have h1 := h x (by simp)
    rw [List.length_cons] at hi
    have h2 := entB_lenC hc l (i + 1) (by omega) (fun y hy => h y (by simp [hy]))
    have e0 := encU_len9w (n := i) (by omega)
    have e1 := encU_len9w h1.1.t
    have e2 := encU_len9w h1.1.s
    have e3 := encU_len9w h1.1.n
    have e4 := encU_len9w (n := x.cell.length) (by omega)
    have h3 := recB_len (kind := 2) (pl := En.pl i x) (m := 45 + c) (by decide) (by simp only [En.pl, List.length_append]; omega) (by omega)
    rw [entB, List.length_append, List.length_cons, Nat.add_mul, Nat.one_mul]
    omega

def xA : En := ⟨1, 1, 1, [120]⟩
def zA : En := ⟨2, 2, 1, [122]⟩
theorem xA_ok : xA.ok ∧ xA.cell.length ≤ 1 := ⟨⟨by decide, by decide, by decide, by decide⟩, by decide⟩
theorem zA_ok : zA.ok ∧ zA.cell.length ≤ 1 := ⟨⟨by decide, by decide, by decide, by decide⟩, by decide⟩
theorem roomA1 : ((putA (fun _ => []) 2 (allB 0 (-1) 0 1)) 2).length + (recVo 1 0 ++ entB 1 [xA, xA]).length ≤ 500 := by
  rw [putA_same, List.length_append]
  have h1 := allB_len (t := 0) (v := -1) (b := 0) (n := 1) (by decide) (by simp only [inK]; omega) (by decide) (by decide)
  have h2 := recVo_len (t := 1) (v := 0) (by decide) (by simp only [inK]; omega)
  have h3 := entB_lenC (c := 1) (by omega) [xA, xA] 1 (by decide) (fun x hx => by simp only [List.mem_cons, List.not_mem_nil, or_false, or_self] at hx; subst hx; exact xA_ok)
  simp only [List.length_cons, List.length_nil] at h3
  omega
theorem roomA2 {T : Nat → List UInt8} (h : (T 2).length ≤ 500) : (T 2).length + (recVo 2 (-1) ++ entB 2 [zA]).length ≤ 2000 := by
  rw [List.length_append]
  have h2 := recVo_len (t := 2) (v := -1) (by decide) (by simp only [inK]; omega)
  have h3 := entB_lenC (c := 1) (by omega) [zA] 2 (by decide) (fun x hx => by simp only [List.mem_cons, List.not_mem_nil, or_false, or_self] at hx; subst hx; exact zA_ok)
  simp only [List.length_cons, List.length_nil] at h3
  omega

set_option maxHeartbeats 4000000 in
theorem awake14_ok (w : World) : Ret Try.prog 5 #[] w fun v w' => v = .bool true ∧ Upd No w w' := by
  refine enterRet (vs := []) (N := 45) Try.func5 rfl rfl rfl ?_
  have hU := Upd.refl No w
  refine WC.keep [] trivial ?_
  refine WC.seq ?_
  refine WC.region ?_
  refine WL.val rfl rfl rfl rfl (r_assign rfl ev_c) ?_
  refine WL.nil ?_
  refine WX.keep [] trivial ?_
  refine WX.next ?_
  refine WC.seq ?_
  refine WC.region ?_
  refine WL.cons (SO.call (open14_ok (m := 2000) (by omega)) rfl body_6 ⟨ev_c, trivial⟩ rfl rfl rfl rfl ?_)
  rintro v9 w1 ⟨d, p, D, rfl, hW, hQ, hu1⟩
  have hs1 := hu1.size
  have hFW : ∀ k, New w w1 k → w.heap.size ≤ k ∧ k < w1.heap.size := fun k hk => hk
  generalize New w w1 = FW at hW hFW
  have hs1 := hu1.size
  replace hU := hU.trans hu1 (by first | exact (fun _ _ h => h) | exact (fun _ _ h => h.elim) | (intro k hl hk; (try simp only [At, New, Grow, From, No] at hk ⊢); omega) | (intro k hl hk; first | (simp only [At, No] at hk; omega) | (have := hFW k hk; omega) | (have := hFW2 k hk; omega)))
  refine WL.val rfl rfl rfl rfl (r_move rfl (ev_t rfl)) ?_
  refine WL.val rfl rfl rfl rfl (r_extract rfl (ev_t rfl) rfl) ?_
  refine WL.val rfl rfl rfl rfl (r_extract rfl (ev_t rfl) rfl) ?_
  refine WL.val rfl rfl rfl rfl (r_assign rfl (ev_t rfl)) ?_
  refine WL.val rfl rfl rfl rfl (r_assign rfl (ev_t rfl)) ?_
  refine WL.nil ?_
  refine WX.keep [(2, _)] ⟨rfl, trivial⟩ ?_
  refine WX.next ?_
  refine WC.seq ?_
  refine WC.region ?_
  refine WL.cons (SO.alloc rfl rfl rfl rfl (r_buildSlice1 (vs := [_]) rfl ⟨ev_c, trivial⟩ rfl row_22 rfl rfl) ?_)
  intro w2 hu2 hB2 hz2
  have hs2 := hu2.size
  replace hU := hU.trans hu2 (by first | exact (fun _ _ h => h) | exact (fun _ _ h => h.elim) | (intro k hl hk; (try simp only [At, New, Grow, From, No] at hk ⊢); omega) | (intro k hl hk; first | (simp only [At, No] at hk; omega) | (have := hFW k hk; omega) | (have := hFW2 k hk; omega)))
  replace hW := hW.upd hu2 (by first | exact (fun _ _ _ h => h) | (intro k hk hl hS; simp only [At] at hS; have := hFW k hk; omega) | (intro k hk hl hS; simp only [At] at hS; have := hFW2 k hk; omega))
  refine WL.cons (SO.convSS rfl (ev_t rfl) elem_22 int_5 hB2 rfl rfl rfl rfl ?_)
  intro w3 z3 hu3 hF3 hz3
  have hs3 := hu3.size
  replace hU := hU.trans hu3 (by first | exact (fun _ _ h => h) | exact (fun _ _ h => h.elim) | (intro k hl hk; (try simp only [At, New, Grow, From, No] at hk ⊢); omega) | (intro k hl hk; first | (simp only [At, No] at hk; omega) | (have := hFW k hk; omega) | (have := hFW2 k hk; omega)))
  replace hW := hW.upd hu3 (by first | exact (fun _ _ _ h => h) | (intro k hk hl hS; simp only [At] at hS; have := hFW k hk; omega) | (intro k hk hl hS; simp only [At] at hS; have := hFW2 k hk; omega))
  have hx : Rd w3 (At _) _ 1 1 (([120] : List UInt8).map U8) := Rd.of_heap (F := At _) (n := 1) (sz := 1) (cs := #[.int .u8 120]) hF3 rfl rfl (by omega)
  have hs2 := hU.size
  refine WL.val rfl rfl rfl rfl (r_build (cs := #[_, _, _, _]) (vs := [(0, _), (1, _), (2, _), (3, _)]) rfl ⟨⟨rfl, ev_c⟩, ⟨rfl, ev_c⟩, ⟨rfl, ev_c⟩, ⟨rfl, (ev_t rfl)⟩, trivial⟩ plc_33 zero_33 rfl) ?_
  refine WL.cons (SO.alloc rfl rfl rfl rfl (r_alloc rfl zero_33) ?_)
  intro w4 hu4 hB4 hz4
  have hs4 := hu4.size
  replace hU := hU.trans hu4 (by first | exact (fun _ _ h => h) | exact (fun _ _ h => h.elim) | (intro k hl hk; (try simp only [At, New, Grow, From, No] at hk ⊢); omega) | (intro k hl hk; first | (simp only [At, No] at hk; omega) | (have := hFW k hk; omega) | (have := hFW2 k hk; omega)))
  replace hW := hW.upd hu4 (by first | exact (fun _ _ _ h => h) | (intro k hk hl hS; simp only [At] at hS; have := hFW k hk; omega) | (intro k hk hl hS; simp only [At] at hS; have := hFW2 k hk; omega))
  replace hx := hx.upd hu4 (by first | exact (fun _ _ _ h => h) | (intro k hk hl hS; simp only [At] at hk hS; omega) | (intro k hk hl hS; simp only [At] at hk; have := hFW k hS; omega) | (intro k hk hl hS; simp only [At] at hk; have := hFW2 k hS; omega))
  refine WL.cons (SO.storeAll (us := [_, _, _, _]) rfl (ev_t rfl) (ev_t rfl) size_33 hB4 rfl rfl rfl rfl rfl ?_)
  intro w5 hu5 hB4 hz5
  have hs5 := hu5.size
  replace hU := hU.trans hu5 (by first | exact (fun _ _ h => h) | exact (fun _ _ h => h.elim) | (intro k hl hk; (try simp only [At, New, Grow, From, No] at hk ⊢); omega) | (intro k hl hk; first | (simp only [At, No] at hk; omega) | (have := hFW k hk; omega) | (have := hFW2 k hk; omega)))
  replace hW := hW.upd hu5 (by first | exact (fun _ _ _ h => h) | (intro k hk hl hS; simp only [At] at hS; have := hFW k hk; omega) | (intro k hk hl hS; simp only [At] at hS; have := hFW2 k hk; omega))
  replace hx := hx.upd hu5 (by first | exact (fun _ _ _ h => h) | (intro k hk hl hS; simp only [At] at hk hS; omega) | (intro k hk hl hS; simp only [At] at hk; have := hFW k hS; omega) | (intro k hk hl hS; simp only [At] at hk; have := hFW2 k hS; omega))
  refine WL.nil ?_
  refine WX.keep [(2, _), (3, _)] ⟨rfl, rfl, trivial⟩ ?_
  have hxB := hB4
  change Blk _ _ #[.int .u64 1, .int .u64 1, .int .u64 1, .slice (some ⟨w1.heap.size, 0, none⟩) 1 1] _ at hxB
  refine WX.next ?_
  refine WC.seq ?_
  refine WC.region ?_
  refine WL.cons (SO.alloc rfl rfl rfl rfl (r_buildSlice1 (vs := [_]) rfl ⟨ev_c, trivial⟩ rfl row_22 rfl rfl) ?_)
  intro w6 hu6 hB6 hz6
  have hs6 := hu6.size
  replace hU := hU.trans hu6 (by first | exact (fun _ _ h => h) | exact (fun _ _ h => h.elim) | (intro k hl hk; (try simp only [At, New, Grow, From, No] at hk ⊢); omega) | (intro k hl hk; first | (simp only [At, No] at hk; omega) | (have := hFW k hk; omega) | (have := hFW2 k hk; omega)))
  replace hW := hW.upd hu6 (by first | exact (fun _ _ _ h => h) | (intro k hk hl hS; simp only [At] at hS; have := hFW k hk; omega) | (intro k hk hl hS; simp only [At] at hS; have := hFW2 k hk; omega))
  replace hx := hx.upd hu6 (by first | exact (fun _ _ _ h => h) | (intro k hk hl hS; simp only [At] at hk hS; omega) | (intro k hk hl hS; simp only [At] at hk; have := hFW k hS; omega) | (intro k hk hl hS; simp only [At] at hk; have := hFW2 k hS; omega))
  replace hxB := hxB.upd hu6 (by first | exact (fun h => h) | (simp only [At]; omega) | (intro h; have := hFW _ h; omega) | (intro h; have := hFW2 _ h; omega))
  refine WL.cons (SO.convSS rfl (ev_t rfl) elem_22 int_5 hB6 rfl rfl rfl rfl ?_)
  intro w7 z7 hu7 hF7 hz7
  have hs7 := hu7.size
  replace hU := hU.trans hu7 (by first | exact (fun _ _ h => h) | exact (fun _ _ h => h.elim) | (intro k hl hk; (try simp only [At, New, Grow, From, No] at hk ⊢); omega) | (intro k hl hk; first | (simp only [At, No] at hk; omega) | (have := hFW k hk; omega) | (have := hFW2 k hk; omega)))
  replace hW := hW.upd hu7 (by first | exact (fun _ _ _ h => h) | (intro k hk hl hS; simp only [At] at hS; have := hFW k hk; omega) | (intro k hk hl hS; simp only [At] at hS; have := hFW2 k hk; omega))
  replace hx := hx.upd hu7 (by first | exact (fun _ _ _ h => h) | (intro k hk hl hS; simp only [At] at hk hS; omega) | (intro k hk hl hS; simp only [At] at hk; have := hFW k hS; omega) | (intro k hk hl hS; simp only [At] at hk; have := hFW2 k hS; omega))
  replace hxB := hxB.upd hu7 (by first | exact (fun h => h) | (simp only [At]; omega) | (intro h; have := hFW _ h; omega) | (intro h; have := hFW2 _ h; omega))
  have hz : Rd w7 (At _) _ 1 1 (([122] : List UInt8).map U8) := Rd.of_heap (F := At _) (n := 1) (sz := 1) (cs := #[.int .u8 122]) hF7 rfl rfl (by omega)
  refine WL.val rfl rfl rfl rfl (r_build (cs := #[_, _, _, _]) (vs := [(0, _), (1, _), (2, _), (3, _)]) rfl ⟨⟨rfl, ev_c⟩, ⟨rfl, ev_c⟩, ⟨rfl, ev_c⟩, ⟨rfl, (ev_t rfl)⟩, trivial⟩ plc_33 zero_33 rfl) ?_
  refine WL.cons (SO.alloc rfl rfl rfl rfl (r_alloc rfl zero_33) ?_)
  intro w8 hu8 hB8 hz8
  have hs8 := hu8.size
  replace hU := hU.trans hu8 (by first | exact (fun _ _ h => h) | exact (fun _ _ h => h.elim) | (intro k hl hk; (try simp only [At, New, Grow, From, No] at hk ⊢); omega) | (intro k hl hk; first | (simp only [At, No] at hk; omega) | (have := hFW k hk; omega) | (have := hFW2 k hk; omega)))
  replace hW := hW.upd hu8 (by first | exact (fun _ _ _ h => h) | (intro k hk hl hS; simp only [At] at hS; have := hFW k hk; omega) | (intro k hk hl hS; simp only [At] at hS; have := hFW2 k hk; omega))
  replace hx := hx.upd hu8 (by first | exact (fun _ _ _ h => h) | (intro k hk hl hS; simp only [At] at hk hS; omega) | (intro k hk hl hS; simp only [At] at hk; have := hFW k hS; omega) | (intro k hk hl hS; simp only [At] at hk; have := hFW2 k hS; omega))
  replace hxB := hxB.upd hu8 (by first | exact (fun h => h) | (simp only [At]; omega) | (intro h; have := hFW _ h; omega) | (intro h; have := hFW2 _ h; omega))
  replace hz := hz.upd hu8 (by first | exact (fun _ _ _ h => h) | (intro k hk hl hS; simp only [At] at hk hS; omega) | (intro k hk hl hS; simp only [At] at hk; have := hFW k hS; omega) | (intro k hk hl hS; simp only [At] at hk; have := hFW2 k hS; omega))
  refine WL.cons (SO.storeAll (us := [_, _, _, _]) rfl (ev_t rfl) (ev_t rfl) size_33 hB8 rfl rfl rfl rfl rfl ?_)
  intro w9 hu9 hB8 hz9
  have hs9 := hu9.size
  replace hU := hU.trans hu9 (by first | exact (fun _ _ h => h) | exact (fun _ _ h => h.elim) | (intro k hl hk; (try simp only [At, New, Grow, From, No] at hk ⊢); omega) | (intro k hl hk; first | (simp only [At, No] at hk; omega) | (have := hFW k hk; omega) | (have := hFW2 k hk; omega)))
  replace hW := hW.upd hu9 (by first | exact (fun _ _ _ h => h) | (intro k hk hl hS; simp only [At] at hS; have := hFW k hk; omega) | (intro k hk hl hS; simp only [At] at hS; have := hFW2 k hk; omega))
  replace hx := hx.upd hu9 (by first | exact (fun _ _ _ h => h) | (intro k hk hl hS; simp only [At] at hk hS; omega) | (intro k hk hl hS; simp only [At] at hk; have := hFW k hS; omega) | (intro k hk hl hS; simp only [At] at hk; have := hFW2 k hS; omega))
  replace hxB := hxB.upd hu9 (by first | exact (fun h => h) | (simp only [At]; omega) | (intro h; have := hFW _ h; omega) | (intro h; have := hFW2 _ h; omega))
  replace hz := hz.upd hu9 (by first | exact (fun _ _ _ h => h) | (intro k hk hl hS; simp only [At] at hk hS; omega) | (intro k hk hl hS; simp only [At] at hk; have := hFW k hS; omega) | (intro k hk hl hS; simp only [At] at hk; have := hFW2 k hS; omega))
  refine WL.nil ?_
  refine WX.keep [(2, _), (3, _), (4, _)] ⟨rfl, rfl, rfl, trivial⟩ ?_
  have hzB := hB8
  change Blk _ _ #[.int .u64 2, .int .u64 2, .int .u64 1, .slice (some ⟨w5.heap.size, 0, none⟩) 1 1] _ at hzB
  refine WX.next ?_
  refine WC.seq ?_
  refine WC.seq ?_
  refine WC.region ?_
  refine WL.val rfl rfl rfl rfl (r_move rfl (ev_t rfl)) ?_
  refine WL.val rfl rfl rfl rfl (r_eqlPtrNil rfl (ev_t rfl) ev_c ptr_25) ?_
  refine WL.val rfl rfl rfl rfl (r_move rfl (ev_t rfl)) ?_
  refine WL.cases 17 rfl (fun hb4_2 => ?_) (fun hb4_2 => ?_)
  · try (exfalso; first | (simp at hb4_2; done) | (simp only [decide_eq_true_eq, decide_eq_false_iff_not, Bool.not_eq_true', Bool.not_eq_false', Bool.not_eq_true, Bool.not_eq_false] at hb4_2; omega) | omega)
    all_goals
     try simp only [decide_eq_true_eq, decide_eq_false_iff_not, Bool.not_eq_true', Bool.not_eq_false', Bool.not_eq_true, Bool.not_eq_false, Option.isNone_none, Option.isNone_some, Option.isSome_none, Option.isSome_some, ne_eq, Decidable.not_not] at hb4_2
     refine WL.skip rfl rfl rfl ?_
     refine WL.skip rfl rfl rfl ?_
     refine WL.skip rfl rfl rfl ?_
     refine WL.skip rfl rfl rfl ?_
     refine WL.val rfl rfl rfl rfl (r_pickT rfl (ev_t rfl) ev_c) ?_
     refine WL.val rfl rfl rfl rfl (r_move rfl (ev_t rfl)) ?_
     refine WL.skip rfl rfl rfl ?_
     refine WL.skip rfl rfl rfl ?_
     refine WL.skip rfl rfl rfl ?_
     refine WL.skip rfl rfl rfl ?_
     refine WL.skip rfl rfl rfl ?_
     refine WL.skip rfl rfl rfl ?_
     refine WL.val rfl rfl rfl rfl (r_pickT rfl (ev_t rfl) ev_c) ?_
     refine WL.val rfl rfl rfl rfl (r_move rfl (ev_t rfl)) ?_
     refine WL.skip rfl rfl rfl ?_
     refine WL.skip rfl rfl rfl ?_
     refine WL.skip rfl rfl rfl ?_
     refine WL.skip rfl rfl rfl ?_
     refine WL.skip rfl rfl rfl ?_
     refine WL.val rfl rfl rfl rfl (r_pickT rfl (ev_t rfl) ev_c) ?_
     refine WL.nil ?_
     refine WX.keep [(2, _), (3, _), (4, _), (37, _)] ⟨rfl, rfl, rfl, rfl, trivial⟩ ?_
     refine WX.next ?_
     refine WC.cond_true rfl (ev_t rfl) ?_
     refine WC.seq ?_
     refine WC.region ?_
     refine WL.val rfl rfl rfl rfl (r_assign rfl ev_c) ?_
     refine WL.nil ?_
     refine WX.keep [(0, _)] ⟨rfl, trivial⟩ ?_
     refine WX.next ?_
     refine WC.ret ?_
     refine WX.thenRet ?_
     refine WX.retE1 rfl rfl ?_
     exact ⟨rfl, hU⟩
  · try (exfalso; first | (simp at hb4_2; done) | (simp only [decide_eq_true_eq, decide_eq_false_iff_not, Bool.not_eq_true', Bool.not_eq_false', Bool.not_eq_true, Bool.not_eq_false] at hb4_2; omega) | omega)
    all_goals
     try simp only [decide_eq_true_eq, decide_eq_false_iff_not, Bool.not_eq_true', Bool.not_eq_false', Bool.not_eq_true, Bool.not_eq_false, Option.isNone_none, Option.isNone_some, Option.isSome_none, Option.isSome_some, ne_eq, Decidable.not_not] at hb4_2
     refine WL.val rfl rfl rfl rfl (r_move rfl (ev_t rfl)) ?_
     refine WL.cons (SO.call (state_ok (s := ⟨0, -1, 0, []⟩) hW (by decide) (fun x h => by cases h)) rfl body_10 ⟨(ev_t rfl), trivial⟩ rfl rfl rfl rfl ?_)
     rintro v9 w10 ⟨lv', rfl, _, hu10⟩
     have hs10 := hu10.size
     replace hU := hU.trans hu10 (by first | exact (fun _ _ h => h) | exact (fun _ _ h => h.elim) | (intro k hl hk; (try simp only [At, New, Grow, From, No] at hk ⊢); omega) | (intro k hl hk; first | (simp only [At, No] at hk; omega) | (have := hFW k hk; omega) | (have := hFW2 k hk; omega)))
     replace hW := hW.upd hu10 (by first | exact (fun _ _ _ h => h) | (intro k hk hl hS; simp only [At] at hS; have := hFW k hk; omega) | (intro k hk hl hS; simp only [At] at hS; have := hFW2 k hk; omega))
     replace hx := hx.upd hu10 (by first | exact (fun _ _ _ h => h) | (intro k hk hl hS; simp only [At] at hk hS; omega) | (intro k hk hl hS; simp only [At] at hk; have := hFW k hS; omega) | (intro k hk hl hS; simp only [At] at hk; have := hFW2 k hS; omega))
     replace hxB := hxB.upd hu10 (by first | exact (fun h => h) | (simp only [At]; omega) | (intro h; have := hFW _ h; omega) | (intro h; have := hFW2 _ h; omega))
     replace hz := hz.upd hu10 (by first | exact (fun _ _ _ h => h) | (intro k hk hl hS; simp only [At] at hk hS; omega) | (intro k hk hl hS; simp only [At] at hk; have := hFW k hS; omega) | (intro k hk hl hS; simp only [At] at hk; have := hFW2 k hS; omega))
     replace hzB := hzB.upd hu10 (by first | exact (fun h => h) | (simp only [At]; omega) | (intro h; have := hFW _ h; omega) | (intro h; have := hFW2 _ h; omega))
     refine WL.val rfl rfl rfl rfl (r_fieldV (n := 1) rfl (ev_t rfl) (by kernel_rfl) rfl) ?_
     refine WL.val rfl rfl rfl rfl (r_neq rfl (ev_t rfl) ev_c) ?_
     refine WL.val rfl rfl rfl rfl (r_pickF rfl (ev_t rfl) (ev_t rfl)) ?_
     refine WL.val rfl rfl rfl rfl (r_move rfl (ev_t rfl)) ?_
     refine WL.cases 23 rfl (fun hb4_8 => ?_) (fun hb4_8 => ?_)
     · try (exfalso; first | (simp at hb4_8; done) | (simp only [decide_eq_true_eq, decide_eq_false_iff_not, Bool.not_eq_true', Bool.not_eq_false', Bool.not_eq_true, Bool.not_eq_false] at hb4_8; omega) | omega)
       all_goals
        try simp only [decide_eq_true_eq, decide_eq_false_iff_not, Bool.not_eq_true', Bool.not_eq_false', Bool.not_eq_true, Bool.not_eq_false, Option.isNone_none, Option.isNone_some, Option.isSome_none, Option.isSome_some, ne_eq, Decidable.not_not] at hb4_8
        refine WL.skip rfl rfl rfl ?_
        refine WL.skip rfl rfl rfl ?_
        refine WL.skip rfl rfl rfl ?_
        refine WL.skip rfl rfl rfl ?_
        refine WL.skip rfl rfl rfl ?_
        refine WL.skip rfl rfl rfl ?_
        refine WL.val rfl rfl rfl rfl (r_pickT rfl (ev_t rfl) ev_c) ?_
        refine WL.val rfl rfl rfl rfl (r_move rfl (ev_t rfl)) ?_
        refine WL.skip rfl rfl rfl ?_
        refine WL.skip rfl rfl rfl ?_
        refine WL.skip rfl rfl rfl ?_
        refine WL.skip rfl rfl rfl ?_
        refine WL.skip rfl rfl rfl ?_
        refine WL.val rfl rfl rfl rfl (r_pickT rfl (ev_t rfl) ev_c) ?_
        refine WL.nil ?_
        refine WX.keep [(2, _), (3, _), (4, _), (37, _)] ⟨rfl, rfl, rfl, rfl, trivial⟩ ?_
        refine WX.next ?_
        refine WC.cond_true rfl (ev_t rfl) ?_
        refine WC.seq ?_
        refine WC.region ?_
        refine WL.val rfl rfl rfl rfl (r_assign rfl ev_c) ?_
        refine WL.nil ?_
        refine WX.keep [(0, _)] ⟨rfl, trivial⟩ ?_
        refine WX.next ?_
        refine WC.ret ?_
        refine WX.thenRet ?_
        refine WX.retE1 rfl rfl ?_
        exact ⟨rfl, hU⟩
     · try (exfalso; first | (simp at hb4_8; done) | (simp only [decide_eq_true_eq, decide_eq_false_iff_not, Bool.not_eq_true', Bool.not_eq_false', Bool.not_eq_true, Bool.not_eq_false] at hb4_8; omega) | omega)
       all_goals
        try simp only [decide_eq_true_eq, decide_eq_false_iff_not, Bool.not_eq_true', Bool.not_eq_false', Bool.not_eq_true, Bool.not_eq_false, Option.isNone_none, Option.isNone_some, Option.isSome_none, Option.isSome_some, ne_eq, Decidable.not_not] at hb4_8
        refine WL.val rfl rfl rfl rfl (r_move rfl (ev_t rfl)) ?_
        refine WL.val rfl rfl rfl rfl (r_loadAgg (vs := [_, _, _, _]) rfl (ev_t rfl) agg_33 size_33 (Blk.cellsL hxB)) ?_
        refine WL.val rfl rfl rfl rfl (r_loadAgg (vs := [_, _, _, _]) rfl (ev_t rfl) agg_33 size_33 (Blk.cellsL hxB)) ?_
        refine WL.cons (SO.alloc rfl rfl rfl rfl (r_buildSlice44 rfl (ev_t rfl) (ev_t rfl) row_28) ?_)
        intro w11 hu11 hl2 hz9
        have hs11 := hu11.size
        replace hU := hU.trans hu11 (by first | exact (fun _ _ h => h) | exact (fun _ _ h => h.elim) | (intro k hl hk; (try simp only [At, New, Grow, From, No] at hk ⊢); omega) | (intro k hl hk; first | (simp only [At, No] at hk; omega) | (have := hFW k hk; omega) | (have := hFW2 k hk; omega)))
        replace hW := hW.upd hu11 (by first | exact (fun _ _ _ h => h) | (intro k hk hl hS; simp only [At] at hS; have := hFW k hk; omega) | (intro k hk hl hS; simp only [At] at hS; have := hFW2 k hk; omega))
        replace hx := hx.upd hu11 (by first | exact (fun _ _ _ h => h) | (intro k hk hl hS; simp only [At] at hk hS; omega) | (intro k hk hl hS; simp only [At] at hk; have := hFW k hS; omega) | (intro k hk hl hS; simp only [At] at hk; have := hFW2 k hS; omega))
        replace hxB := hxB.upd hu11 (by first | exact (fun h => h) | (simp only [At]; omega) | (intro h; have := hFW _ h; omega) | (intro h; have := hFW2 _ h; omega))
        replace hz := hz.upd hu11 (by first | exact (fun _ _ _ h => h) | (intro k hk hl hS; simp only [At] at hk hS; omega) | (intro k hk hl hS; simp only [At] at hk; have := hFW k hS; omega) | (intro k hk hl hS; simp only [At] at hk; have := hFW2 k hS; omega))
        replace hzB := hzB.upd hu11 (by first | exact (fun h => h) | (simp only [At]; omega) | (intro h; have := hFW _ h; omega) | (intro h; have := hFW2 _ h; omega))
        have hs4 := hU.size
        refine WL.cons (SO.call (Save_ok (a := 1) (side := 1) (k0 := 0) (t := 1) (v := 0) (s := st0) (L := [xA, xA]) (Fl := fun k => FW k → False) hW hQ (by omega) (by omega) (by decide) (by omega) (by simp) (by simp [st0]) (by simp [st0]) ⟨[⟨xA, .slice (some ⟨w1.heap.size, 0, none⟩) 1 1⟩, ⟨xA, .slice (some ⟨w1.heap.size, 0, none⟩) 1 1⟩], rfl, Rd.of_blk (n := 2) (sz := 4) hl2 (fun h => by have := hFW _ h; omega) rfl (by omega), fun r hr => by (simp only [List.mem_cons, List.not_mem_nil, or_false, or_self] at hr; subst hr; exact hx.mono fun k hk h => by simp only [At] at hk; have := hFW _ h; omega)⟩ (by simp) (by simp) (fun x hx => by simp only [List.mem_cons, List.not_mem_nil, or_false, or_self] at hx; subst hx; exact ⟨xA_ok.1, by decide⟩) (fun k h => h) (Nat.le_trans roomA1 (by omega))) rfl body_7 ⟨(ev_t rfl), ev_c, ev_c, ev_c, (ev_t rfl), trivial⟩ rfl rfl rfl rfl ?_)
        rintro v9 w12 ⟨rfl, D1, hW1, hQ1, hu12⟩
        have hs5 := hu12.size
        have hFW2 : ∀ k, Grow FW w11 w12 k → w.heap.size ≤ k ∧ k < w12.heap.size ∧ (k < w1.heap.size ∨ w11.heap.size ≤ k) := fun k hk => by
          rcases hk with h | h
          · have := hFW k h; omega
          · omega
        generalize Grow FW w11 w12 = FW2 at hW1 hFW2
        have hW := hW1
        clear hW1
        have hs12 := hu12.size
        replace hU := hU.trans hu12 (by first | exact (fun _ _ h => h) | exact (fun _ _ h => h.elim) | (intro k hl hk; (try simp only [At, New, Grow, From, No] at hk ⊢); omega) | (intro k hl hk; first | (simp only [At, No] at hk; omega) | (have := hFW k hk; omega) | (have := hFW2 k hk; omega)))
        replace hx := hx.upd hu12 (by first | exact (fun _ _ _ h => h) | (intro k hk hl hS; simp only [At] at hk hS; omega) | (intro k hk hl hS; simp only [At] at hk; have := hFW k hS; omega) | (intro k hk hl hS; simp only [At] at hk; have := hFW2 k hS; omega))
        replace hxB := hxB.upd hu12 (by first | exact (fun h => h) | (simp only [At]; omega) | (intro h; have := hFW _ h; omega) | (intro h; have := hFW2 _ h; omega))
        replace hz := hz.upd hu12 (by first | exact (fun _ _ _ h => h) | (intro k hk hl hS; simp only [At] at hk hS; omega) | (intro k hk hl hS; simp only [At] at hk; have := hFW k hS; omega) | (intro k hk hl hS; simp only [At] at hk; have := hFW2 k hS; omega))
        replace hzB := hzB.upd hu12 (by first | exact (fun h => h) | (simp only [At]; omega) | (intro h; have := hFW _ h; omega) | (intro h; have := hFW2 _ h; omega))
        refine WL.val rfl rfl rfl rfl (r_neq rfl (ev_t rfl) ev_c) ?_
        refine WL.val rfl rfl rfl rfl (r_pickF rfl (ev_t rfl) (ev_t rfl)) ?_
        refine WL.val rfl rfl rfl rfl (r_move rfl (ev_t rfl)) ?_
        refine WL.cases 31 rfl (fun hb4_16 => ?_) (fun hb4_16 => ?_)
        · try (exfalso; first | (simp at hb4_16; done) | (simp only [decide_eq_true_eq, decide_eq_false_iff_not, Bool.not_eq_true', Bool.not_eq_false', Bool.not_eq_true, Bool.not_eq_false] at hb4_16; omega) | omega)
          all_goals
           try simp only [decide_eq_true_eq, decide_eq_false_iff_not, Bool.not_eq_true', Bool.not_eq_false', Bool.not_eq_true, Bool.not_eq_false, Option.isNone_none, Option.isNone_some, Option.isSome_none, Option.isSome_some, ne_eq, Decidable.not_not] at hb4_16
           refine WL.skip rfl rfl rfl ?_
           refine WL.skip rfl rfl rfl ?_
           refine WL.skip rfl rfl rfl ?_
           refine WL.skip rfl rfl rfl ?_
           refine WL.skip rfl rfl rfl ?_
           refine WL.val rfl rfl rfl rfl (r_pickT rfl (ev_t rfl) ev_c) ?_
           refine WL.nil ?_
           refine WX.keep [(2, _), (3, _), (4, _), (37, _)] ⟨rfl, rfl, rfl, rfl, trivial⟩ ?_
           refine WX.next ?_
           refine WC.cond_true rfl (ev_t rfl) ?_
           refine WC.seq ?_
           refine WC.region ?_
           refine WL.val rfl rfl rfl rfl (r_assign rfl ev_c) ?_
           refine WL.nil ?_
           refine WX.keep [(0, _)] ⟨rfl, trivial⟩ ?_
           refine WX.next ?_
           refine WC.ret ?_
           refine WX.thenRet ?_
           refine WX.retE1 rfl rfl ?_
           exact ⟨rfl, hU⟩
        · try (exfalso; first | (simp at hb4_16; done) | (simp only [decide_eq_true_eq, decide_eq_false_iff_not, Bool.not_eq_true', Bool.not_eq_false', Bool.not_eq_true, Bool.not_eq_false] at hb4_16; omega) | omega)
          all_goals
           try simp only [decide_eq_true_eq, decide_eq_false_iff_not, Bool.not_eq_true', Bool.not_eq_false', Bool.not_eq_true, Bool.not_eq_false, Option.isNone_none, Option.isNone_some, Option.isSome_none, Option.isSome_some, ne_eq, Decidable.not_not] at hb4_16
           refine WL.val rfl rfl rfl rfl (r_move rfl (ev_t rfl)) ?_
           refine WL.val rfl rfl rfl rfl (r_loadAgg (vs := [_, _, _, _]) rfl (ev_t rfl) agg_33 size_33 (Blk.cellsL hzB)) ?_
           refine WL.cons (SO.alloc rfl rfl rfl rfl (r_buildSlice (cs := #[_, _, _, _]) (vs := [(0, _)]) rfl ⟨⟨rfl, (ev_t rfl)⟩, trivial⟩ row_28 rfl rfl) ?_)
           intro w13 hu13 hB13 hz13
           have hs13 := hu13.size
           replace hU := hU.trans hu13 (by first | exact (fun _ _ h => h) | exact (fun _ _ h => h.elim) | (intro k hl hk; (try simp only [At, New, Grow, From, No] at hk ⊢); omega) | (intro k hl hk; first | (simp only [At, No] at hk; omega) | (have := hFW k hk; omega) | (have := hFW2 k hk; omega)))
           replace hW := hW.upd hu13 (by first | exact (fun _ _ _ h => h) | (intro k hk hl hS; simp only [At] at hS; have := hFW k hk; omega) | (intro k hk hl hS; simp only [At] at hS; have := hFW2 k hk; omega))
           replace hx := hx.upd hu13 (by first | exact (fun _ _ _ h => h) | (intro k hk hl hS; simp only [At] at hk hS; omega) | (intro k hk hl hS; simp only [At] at hk; have := hFW k hS; omega) | (intro k hk hl hS; simp only [At] at hk; have := hFW2 k hS; omega))
           replace hxB := hxB.upd hu13 (by first | exact (fun h => h) | (simp only [At]; omega) | (intro h; have := hFW _ h; omega) | (intro h; have := hFW2 _ h; omega))
           replace hz := hz.upd hu13 (by first | exact (fun _ _ _ h => h) | (intro k hk hl hS; simp only [At] at hk hS; omega) | (intro k hk hl hS; simp only [At] at hk; have := hFW k hS; omega) | (intro k hk hl hS; simp only [At] at hk; have := hFW2 k hS; omega))
           replace hzB := hzB.upd hu13 (by first | exact (fun h => h) | (simp only [At]; omega) | (intro h; have := hFW _ h; omega) | (intro h; have := hFW2 _ h; omega))
           have hl3 := hB13
           have hs6 := hU.size
           refine WL.cons (SO.call (Save_ok (a := 1) (side := 1) (k0 := 1) (t := 2) (v := -1) (s := ⟨1, 0, 0, [xA, xA]⟩) (L := [zA]) (Fl := fun k => FW2 k → False) hW hQ1 (by omega) (by omega) (by decide) (by omega) (by simp) (by simp) (by simp) ⟨[⟨zA, .slice (some ⟨w5.heap.size, 0, none⟩) 1 1⟩], rfl, Rd.of_blk (n := 1) (sz := 4) hl3 (fun h => by have := hFW2 _ h; omega) rfl (by omega), fun r hr => by (obtain rfl := List.mem_singleton.1 hr; exact hz.mono fun k hk h => by simp only [At] at hk; have := hFW2 _ h; omega)⟩ (by simp) (by simp) (fun x hx => by simp only [List.mem_cons, List.not_mem_nil, or_false, or_self] at hx; subst hx; exact ⟨zA_ok.1, by decide⟩) (fun k h => h) (roomA2 (by rw [putA_same, List.length_append]; exact roomA1))) rfl body_7 ⟨(ev_t rfl), ev_c, ev_c, ev_c, (ev_t rfl), trivial⟩ rfl rfl rfl rfl ?_)
           rintro v9 w14 ⟨rfl, D2, hW2, hQ2, hu14⟩
           have hW9 : IsWal w14 (fun _ => True) p d D2 1 1 1 ⟨2, -1, 0, [xA, zA]⟩ := hW2.mono (fun _ _ _ => trivial)
           clear hW hW2
           have hs14 := hu14.size
           replace hU := hU.trans hu14 (by first | exact (fun _ _ h => h) | exact (fun _ _ h => h.elim) | (intro k hl hk; (try simp only [At, New, Grow, From, No] at hk ⊢); omega) | (intro k hl hk; first | (simp only [At, No] at hk; omega) | (have := hFW k hk; omega) | (have := hFW2 k hk; omega)))
           replace hx := hx.upd hu14 (by first | exact (fun _ _ _ h => h) | (intro k hk hl hS; simp only [At] at hk hS; omega) | (intro k hk hl hS; simp only [At] at hk; have := hFW k hS; omega) | (intro k hk hl hS; simp only [At] at hk; have := hFW2 k hS; omega))
           replace hxB := hxB.upd hu14 (by first | exact (fun h => h) | (simp only [At]; omega) | (intro h; have := hFW _ h; omega) | (intro h; have := hFW2 _ h; omega))
           replace hz := hz.upd hu14 (by first | exact (fun _ _ _ h => h) | (intro k hk hl hS; simp only [At] at hk hS; omega) | (intro k hk hl hS; simp only [At] at hk; have := hFW k hS; omega) | (intro k hk hl hS; simp only [At] at hk; have := hFW2 k hS; omega))
           replace hzB := hzB.upd hu14 (by first | exact (fun h => h) | (simp only [At]; omega) | (intro h; have := hFW _ h; omega) | (intro h; have := hFW2 _ h; omega))
           refine WL.val rfl rfl rfl rfl (r_neq rfl (ev_t rfl) ev_c) ?_
           refine WL.val rfl rfl rfl rfl (r_pickF rfl (ev_t rfl) (ev_t rfl)) ?_
           refine WL.nil ?_
           refine WX.keep [(2, _), (3, _), (4, _), (37, _)] ⟨rfl, rfl, rfl, rfl, trivial⟩ ?_
           refine WX.next ?_
           refine WC.cond rfl (ev_t rfl) (fun hc4 => ?_) (fun hc4 => ?_)
           · try (exfalso; first | (simp at hc4; done) | (simp only [decide_eq_true_eq, decide_eq_false_iff_not, Bool.not_eq_true', Bool.not_eq_false', Bool.not_eq_true, Bool.not_eq_false] at hc4; omega) | omega)
             all_goals
              try simp only [decide_eq_true_eq, decide_eq_false_iff_not, Bool.not_eq_true', Bool.not_eq_false', Bool.not_eq_true, Bool.not_eq_false, Option.isNone_none, Option.isNone_some, Option.isSome_none, Option.isSome_some, ne_eq, Decidable.not_not] at hc4
              refine WC.seq ?_
              refine WC.region ?_
              refine WL.val rfl rfl rfl rfl (r_assign rfl ev_c) ?_
              refine WL.nil ?_
              refine WX.keep [(0, _)] ⟨rfl, trivial⟩ ?_
              refine WX.next ?_
              refine WC.ret ?_
              refine WX.thenRet ?_
              refine WX.retE1 rfl rfl ?_
              exact ⟨rfl, hU⟩
           · try (exfalso; first | (simp at hc4; done) | (simp only [decide_eq_true_eq, decide_eq_false_iff_not, Bool.not_eq_true', Bool.not_eq_false', Bool.not_eq_true, Bool.not_eq_false] at hc4; omega) | omega)
             all_goals
              try simp only [decide_eq_true_eq, decide_eq_false_iff_not, Bool.not_eq_true', Bool.not_eq_false', Bool.not_eq_true, Bool.not_eq_false, Option.isNone_none, Option.isNone_some, Option.isSome_none, Option.isSome_some, ne_eq, Decidable.not_not] at hc4
              refine WC.skip ?_
              refine WX.next ?_
              refine WC.seq ?_
              refine WC.draws' (fun u0_ u1_ => Upd No u0_ u1_) (fun j => [0, 1, 0, 0, 2, 0, 2, 0].getD j 0) (.calm 0 (.held 2 (.held 3 (.two 1 4 (.one 4 (.calm 5 (.one 6 (.calm 7 (.done))))) (.calm 5 (.one 1 (.one 6 (.calm 7 (.done))))))))) mixed (by kernel_rfl) (by repeat (first | with_reducible exact Deaf.body | with_reducible apply Deaf.then | with_reducible apply Deaf.block)) ?_
              intro w15 hu15
              have hz15 := congrArg Array.size hu15.2.2.2
              replace hu15 := Upd.of_draw hu15
              have hs15 := hu15.size
              replace hU := hU.trans hu15 (by first | exact (fun _ _ h => h) | exact (fun _ _ h => h.elim) | (intro k hl hk; (try simp only [At, New, Grow, From, No] at hk ⊢); omega) | (intro k hl hk; first | (simp only [At, No] at hk; omega) | (have := hFW k hk; omega) | (have := hFW2 k hk; omega)))
              replace hx := hx.upd hu15 (by first | exact (fun _ _ _ h => h) | (intro k hk hl hS; simp only [At] at hk hS; omega) | (intro k hk hl hS; simp only [At] at hk; have := hFW k hS; omega) | (intro k hk hl hS; simp only [At] at hk; have := hFW2 k hS; omega))
              replace hxB := hxB.upd hu15 (by first | exact (fun h => h) | (simp only [At]; omega) | (intro h; have := hFW _ h; omega) | (intro h; have := hFW2 _ h; omega))
              replace hz := hz.upd hu15 (by first | exact (fun _ _ _ h => h) | (intro k hk hl hS; simp only [At] at hk hS; omega) | (intro k hk hl hS; simp only [At] at hk; have := hFW k hS; omega) | (intro k hk hl hS; simp only [At] at hk; have := hFW2 k hS; omega))
              replace hzB := hzB.upd hu15 (by first | exact (fun h => h) | (simp only [At]; omega) | (intro h; have := hFW _ h; omega) | (intro h; have := hFW2 _ h; omega))
              replace hW9 := hW9.upd hu15 (by first | exact (fun _ _ _ h => h))
              have hS6 := Upd.refl No w15
              refine WN.calm _ rfl rfl rfl rfl rfl (fun _ => r_move rfl (ev_t rfl)) ?_
              refine WN.held _ rfl rfl rfl rfl rfl hS6 (fun w' hS => r_loadAgg (vs := [_, _, _, _]) rfl (ev_t rfl) agg_33 size_33 (Blk.cellsL (hxB.upd hS (fun h => h)))) ?_
              refine WN.held _ rfl rfl rfl rfl rfl hS6 (fun w' hS => r_loadAgg (vs := [_, _, _, _]) rfl (ev_t rfl) agg_33 size_33 (Blk.cellsL (hzB.upd hS (fun h => h)))) ?_
              refine WN.fork _ _ rfl rfl ?_ ?_
              · refine SO.call (state_ok hW9 (by decide) (fun x hx => by simp only [List.mem_cons, List.not_mem_nil, or_false] at hx; rcases hx with rfl | rfl <;> decide)) rfl body_10 ⟨(ev_t rfl), trivial⟩ rfl rfl rfl rfl ?_
                rintro v9 w16 ⟨lv', rfl, hDE, hu16⟩
                have hs16 := hu16.size
                replace hS6 := Upd.transA hS6 hu16
                replace hU := hU.trans hu16 (by first | exact (fun _ _ h => h) | exact (fun _ _ h => h.elim) | (intro k hl hk; (try simp only [At, New, Grow, From, No] at hk ⊢); omega) | (intro k hl hk; first | (simp only [At, No] at hk; omega) | (have := hFW k hk; omega) | (have := hFW2 k hk; omega)))
                replace hx := hx.upd hu16 (by first | exact (fun _ _ _ h => h) | (intro k hk hl hS; simp only [At] at hk hS; omega) | (intro k hk hl hS; simp only [At] at hk; have := hFW k hS; omega) | (intro k hk hl hS; simp only [At] at hk; have := hFW2 k hS; omega))
                replace hxB := hxB.upd hu16 (by first | exact (fun h => h) | (simp only [At]; omega) | (intro h; have := hFW _ h; omega) | (intro h; have := hFW2 _ h; omega))
                replace hz := hz.upd hu16 (by first | exact (fun _ _ _ h => h) | (intro k hk hl hS; simp only [At] at hk hS; omega) | (intro k hk hl hS; simp only [At] at hk; have := hFW k hS; omega) | (intro k hk hl hS; simp only [At] at hk; have := hFW2 k hS; omega))
                replace hzB := hzB.upd hu16 (by first | exact (fun h => h) | (simp only [At]; omega) | (intro h; have := hFW _ h; omega) | (intro h; have := hFW2 _ h; omega))
                replace hW9 := hW9.upd hu16 (by first | exact (fun _ _ _ h => h))
                refine ⟨hS6, ?_⟩
                refine WN.step _ rfl (SO.alloc rfl rfl rfl rfl (r_buildSlice44 rfl (ev_t rfl) (ev_t rfl) row_28) ?_)
                intro w17 hu17 hBl hz9
                have hs17 := hu17.size
                try replace hS6 := Upd.transA hS6 hu17
                replace hU := hU.trans hu17 (by first | exact (fun _ _ h => h) | exact (fun _ _ h => h.elim) | (intro k hl hk; (try simp only [At, New, Grow, From, No] at hk ⊢); omega) | (intro k hl hk; first | (simp only [At, No] at hk; omega) | (have := hFW k hk; omega) | (have := hFW2 k hk; omega)))
                replace hx := hx.upd hu17 (by first | exact (fun _ _ _ h => h) | (intro k hk hl hS; simp only [At] at hk hS; omega) | (intro k hk hl hS; simp only [At] at hk; have := hFW k hS; omega) | (intro k hk hl hS; simp only [At] at hk; have := hFW2 k hS; omega))
                replace hxB := hxB.upd hu17 (by first | exact (fun h => h) | (simp only [At]; omega) | (intro h; have := hFW _ h; omega) | (intro h; have := hFW2 _ h; omega))
                replace hz := hz.upd hu17 (by first | exact (fun _ _ _ h => h) | (intro k hk hl hS; simp only [At] at hk hS; omega) | (intro k hk hl hS; simp only [At] at hk; have := hFW k hS; omega) | (intro k hk hl hS; simp only [At] at hk; have := hFW2 k hS; omega))
                replace hzB := hzB.upd hu17 (by first | exact (fun h => h) | (simp only [At]; omega) | (intro h; have := hFW _ h; omega) | (intro h; have := hFW2 _ h; omega))
                replace hW9 := hW9.upd hu17 (by first | exact (fun _ _ _ h => h))
                replace hDE := hDE.upd hu17 (by first | exact (fun _ _ _ h => h))
                refine ⟨trivial, ?_⟩
                refine WN.calm _ rfl rfl rfl rfl rfl (fun _ => r_build (cs := #[_, _, _, _]) (vs := [(0, _), (1, _), (3, _)]) rfl ⟨⟨rfl, ev_c⟩, ⟨rfl, ev_c⟩, ⟨rfl, (ev_t rfl)⟩, trivial⟩ plc_31 zero_31 rfl) ?_
                refine WN.step _ rfl (SO.call (Same14_ok (s := ⟨2, -1, 0, [xA, zA]⟩) (F' := fun _ => True) (hDE.rd (by decide) (fun x hx => by simp only [List.mem_cons, List.not_mem_nil, or_false] at hx; rcases hx with rfl | rfl <;> decide)) ⟨[⟨xA, .slice (some ⟨w1.heap.size, 0, none⟩) 1 1⟩, ⟨zA, .slice (some ⟨w5.heap.size, 0, none⟩) 1 1⟩], rfl, Rd.of_blk (n := 2) (sz := 4) hBl trivial rfl (by omega), fun r hr => by (simp only [List.mem_cons, List.not_mem_nil, or_false] at hr; rcases hr with rfl | rfl; exact hx.mono (fun _ _ => trivial); exact hz.mono (fun _ _ => trivial))⟩) rfl body_9 ⟨(ev_t rfl), (ev_t rfl), trivial⟩ rfl rfl rfl rfl ?_)
                rintro v9 w18 ⟨rfl, hu18⟩
                have hs18 := hu18.size
                try replace hS6 := Upd.transA hS6 hu18
                replace hU := hU.trans hu18 (by first | exact (fun _ _ h => h) | exact (fun _ _ h => h.elim) | (intro k hl hk; (try simp only [At, New, Grow, From, No] at hk ⊢); omega) | (intro k hl hk; first | (simp only [At, No] at hk; omega) | (have := hFW k hk; omega) | (have := hFW2 k hk; omega)))
                replace hx := hx.upd hu18 (by first | exact (fun _ _ _ h => h) | (intro k hk hl hS; simp only [At] at hk hS; omega) | (intro k hk hl hS; simp only [At] at hk; have := hFW k hS; omega) | (intro k hk hl hS; simp only [At] at hk; have := hFW2 k hS; omega))
                replace hxB := hxB.upd hu18 (by first | exact (fun h => h) | (simp only [At]; omega) | (intro h; have := hFW _ h; omega) | (intro h; have := hFW2 _ h; omega))
                replace hz := hz.upd hu18 (by first | exact (fun _ _ _ h => h) | (intro k hk hl hS; simp only [At] at hk hS; omega) | (intro k hk hl hS; simp only [At] at hk; have := hFW k hS; omega) | (intro k hk hl hS; simp only [At] at hk; have := hFW2 k hS; omega))
                replace hzB := hzB.upd hu18 (by first | exact (fun h => h) | (simp only [At]; omega) | (intro h; have := hFW _ h; omega) | (intro h; have := hFW2 _ h; omega))
                replace hW9 := hW9.upd hu18 (by first | exact (fun _ _ _ h => h))
                replace hDE := hDE.upd hu18 (by first | exact (fun _ _ _ h => h))
                replace hBl := hBl.upd hu18 (fun h => h)
                refine ⟨trivial, ?_⟩
                refine WN.calm _ rfl rfl rfl rfl rfl (fun _ => r_assign rfl (ev_t rfl)) ?_
                refine WN.done ?_
                refine WX.keep [(0, _)] ⟨rfl, trivial⟩ ?_
                refine WX.next ?_
                refine WC.ret ?_
                refine WX.retE1 rfl rfl ?_
                exact ⟨rfl, hU⟩
              · refine SO.alloc rfl rfl rfl rfl (r_buildSlice44 rfl (ev_t rfl) (ev_t rfl) row_28) ?_
                intro w19 hu19 hBl hz9
                have hs19 := hu19.size
                try replace hS6 := Upd.transA hS6 hu19
                replace hU := hU.trans hu19 (by first | exact (fun _ _ h => h) | exact (fun _ _ h => h.elim) | (intro k hl hk; (try simp only [At, New, Grow, From, No] at hk ⊢); omega) | (intro k hl hk; first | (simp only [At, No] at hk; omega) | (have := hFW k hk; omega) | (have := hFW2 k hk; omega)))
                replace hx := hx.upd hu19 (by first | exact (fun _ _ _ h => h) | (intro k hk hl hS; simp only [At] at hk hS; omega) | (intro k hk hl hS; simp only [At] at hk; have := hFW k hS; omega) | (intro k hk hl hS; simp only [At] at hk; have := hFW2 k hS; omega))
                replace hxB := hxB.upd hu19 (by first | exact (fun h => h) | (simp only [At]; omega) | (intro h; have := hFW _ h; omega) | (intro h; have := hFW2 _ h; omega))
                replace hz := hz.upd hu19 (by first | exact (fun _ _ _ h => h) | (intro k hk hl hS; simp only [At] at hk hS; omega) | (intro k hk hl hS; simp only [At] at hk; have := hFW k hS; omega) | (intro k hk hl hS; simp only [At] at hk; have := hFW2 k hS; omega))
                replace hzB := hzB.upd hu19 (by first | exact (fun h => h) | (simp only [At]; omega) | (intro h; have := hFW _ h; omega) | (intro h; have := hFW2 _ h; omega))
                replace hW9 := hW9.upd hu19 (by first | exact (fun _ _ _ h => h))
                refine ⟨trivial, ?_⟩
                refine WN.calm _ rfl rfl rfl rfl rfl (fun _ => r_build (cs := #[_, _, _, _]) (vs := [(0, _), (1, _), (3, _)]) rfl ⟨⟨rfl, ev_c⟩, ⟨rfl, ev_c⟩, ⟨rfl, (ev_t rfl)⟩, trivial⟩ plc_31 zero_31 rfl) ?_
                refine WN.step _ rfl (SO.call (state_ok hW9 (by decide) (fun x hx => by simp only [List.mem_cons, List.not_mem_nil, or_false] at hx; rcases hx with rfl | rfl <;> decide)) rfl body_10 ⟨(ev_t rfl), trivial⟩ rfl rfl rfl rfl ?_)
                rintro v9 w20 ⟨lv', rfl, hDE, hu20⟩
                have hs20 := hu20.size
                replace hS6 := Upd.transA hS6 hu20
                replace hU := hU.trans hu20 (by first | exact (fun _ _ h => h) | exact (fun _ _ h => h.elim) | (intro k hl hk; (try simp only [At, New, Grow, From, No] at hk ⊢); omega) | (intro k hl hk; first | (simp only [At, No] at hk; omega) | (have := hFW k hk; omega) | (have := hFW2 k hk; omega)))
                replace hx := hx.upd hu20 (by first | exact (fun _ _ _ h => h) | (intro k hk hl hS; simp only [At] at hk hS; omega) | (intro k hk hl hS; simp only [At] at hk; have := hFW k hS; omega) | (intro k hk hl hS; simp only [At] at hk; have := hFW2 k hS; omega))
                replace hxB := hxB.upd hu20 (by first | exact (fun h => h) | (simp only [At]; omega) | (intro h; have := hFW _ h; omega) | (intro h; have := hFW2 _ h; omega))
                replace hz := hz.upd hu20 (by first | exact (fun _ _ _ h => h) | (intro k hk hl hS; simp only [At] at hk hS; omega) | (intro k hk hl hS; simp only [At] at hk; have := hFW k hS; omega) | (intro k hk hl hS; simp only [At] at hk; have := hFW2 k hS; omega))
                replace hzB := hzB.upd hu20 (by first | exact (fun h => h) | (simp only [At]; omega) | (intro h; have := hFW _ h; omega) | (intro h; have := hFW2 _ h; omega))
                replace hW9 := hW9.upd hu20 (by first | exact (fun _ _ _ h => h))
                replace hBl := hBl.upd hu20 (fun h => h)
                refine ⟨hS6, ?_⟩
                refine WN.step _ rfl (SO.call (Same14_ok (s := ⟨2, -1, 0, [xA, zA]⟩) (F' := fun _ => True) (hDE.rd (by decide) (fun x hx => by simp only [List.mem_cons, List.not_mem_nil, or_false] at hx; rcases hx with rfl | rfl <;> decide)) ⟨[⟨xA, .slice (some ⟨w1.heap.size, 0, none⟩) 1 1⟩, ⟨zA, .slice (some ⟨w5.heap.size, 0, none⟩) 1 1⟩], rfl, Rd.of_blk (n := 2) (sz := 4) hBl trivial rfl (by omega), fun r hr => by (simp only [List.mem_cons, List.not_mem_nil, or_false] at hr; rcases hr with rfl | rfl; exact hx.mono (fun _ _ => trivial); exact hz.mono (fun _ _ => trivial))⟩) rfl body_9 ⟨(ev_t rfl), (ev_t rfl), trivial⟩ rfl rfl rfl rfl ?_)
                rintro v9 w21 ⟨rfl, hu21⟩
                have hs21 := hu21.size
                try replace hS6 := Upd.transA hS6 hu21
                replace hU := hU.trans hu21 (by first | exact (fun _ _ h => h) | exact (fun _ _ h => h.elim) | (intro k hl hk; (try simp only [At, New, Grow, From, No] at hk ⊢); omega) | (intro k hl hk; first | (simp only [At, No] at hk; omega) | (have := hFW k hk; omega) | (have := hFW2 k hk; omega)))
                replace hx := hx.upd hu21 (by first | exact (fun _ _ _ h => h) | (intro k hk hl hS; simp only [At] at hk hS; omega) | (intro k hk hl hS; simp only [At] at hk; have := hFW k hS; omega) | (intro k hk hl hS; simp only [At] at hk; have := hFW2 k hS; omega))
                replace hxB := hxB.upd hu21 (by first | exact (fun h => h) | (simp only [At]; omega) | (intro h; have := hFW _ h; omega) | (intro h; have := hFW2 _ h; omega))
                replace hz := hz.upd hu21 (by first | exact (fun _ _ _ h => h) | (intro k hk hl hS; simp only [At] at hk hS; omega) | (intro k hk hl hS; simp only [At] at hk; have := hFW k hS; omega) | (intro k hk hl hS; simp only [At] at hk; have := hFW2 k hS; omega))
                replace hzB := hzB.upd hu21 (by first | exact (fun h => h) | (simp only [At]; omega) | (intro h; have := hFW _ h; omega) | (intro h; have := hFW2 _ h; omega))
                replace hW9 := hW9.upd hu21 (by first | exact (fun _ _ _ h => h))
                replace hBl := hBl.upd hu21 (fun h => h)
                replace hDE := hDE.upd hu21 (by first | exact (fun _ _ _ h => h))
                refine ⟨trivial, ?_⟩
                refine WN.calm _ rfl rfl rfl rfl rfl (fun _ => r_assign rfl (ev_t rfl)) ?_
                refine WN.done ?_
                refine WX.keep [(0, _)] ⟨rfl, trivial⟩ ?_
                refine WX.next ?_
                refine WC.ret ?_
                refine WX.retE1 rfl rfl ?_
                exact ⟨rfl, hU⟩
end Go.Proofs.Ytnjfhmlfpfkllaa

/-
  The first of some own entries, opened to be written.
-/
namespace Go.Proofs.Ytnjfhmlfpfkllaa
open Go
set_option linter.unusedSimpArgs false
set_option linter.unusedVariables false

theorem DEnts.first {w : World} {F : Nat → Prop} {v : Value} {x : En} {L : List En} {c : UInt8} {r : List UInt8} (h : DEnts w F v (x :: L)) (hc : x.cell = c :: r) : ∃ (g cap gb cb : Nat) (cur curb : Array Value), v = .slice (some ⟨g, 0, none⟩) (L.length + 1) cap ∧
    Blk w g cur 33 ∧ cur[3]? = some (.slice (some ⟨gb, 0, none⟩) x.cell.length cb) ∧ Blk w gb curb 5 ∧ curb[0]? = some (.int .u8 (c.toNat : Int)) ∧ F g ∧ F gb ∧ g ≠ gb := by
  obtain ⟨V, G, H, h1, h2, h3, h4, h5⟩ := h
  cases V with
  | nil => cases h1
  | cons r0 V =>
    simp only [List.map_cons, List.cons.injEq] at h1
    obtain ⟨rfl, rfl⟩ := h1
    have hH := h3 r0 (by simp)
    obtain ⟨g, cap, cur, e1, hb, hg, k1, k2, k3, k4⟩ := h2.open (by simp)
    obtain ⟨gb, cb, curb, e2, hbb, hgb, j1, j2, j3, j4⟩ := hH.open (by rw [hc]; simp)
    refine ⟨g, cap, gb, cb, cur, curb, by rw [e1, List.length_cons, List.length_map], hb, ?_, hbb, ?_, (h4 g hg).1, (h5 gb hgb).1, fun e => (h5 gb hgb).2.1 (e ▸ hg)⟩
    · have h9 : (cur.toList.take ((r0 :: V).length * 4))[3]? = some r0.v := by rw [k4]; rfl
      rw [List.getElem?_take] at h9
      split at h9
      · rw [← e2]; simpa using h9
      · cases h9
    · have h9 : (curb.toList.take (r0.x.cell.length * 1))[0]? = some (U8 c) := by rw [j4, hc]; rfl
      rw [List.getElem?_take] at h9
      split at h9
      · simpa [U8] using h9
      · cases h9
end Go.Proofs.Ytnjfhmlfpfkllaa

/-
  Law 14: WalKeeps.
-/
namespace Go.Proofs.Ytnjfhmlfpfkllaa
open Go
set_option linter.unusedSimpArgs false
set_option linter.unusedVariables false

def mkE (cl : List UInt8) (i : Nat) : En := ⟨1, i, 0, cl⟩
def mkV (cv : Value) (cl : List UInt8) (i : Nat) : EnV := ⟨mkE cl i, cv⟩
theorem mkE_succ (cl : List UInt8) (j : Nat) : (List.range (j + 1)).map (mkE cl) = (List.range j).map (mkE cl) ++ [mkE cl j] := by rw [List.range_succ, List.map_append]; rfl
theorem mkV_succ (cv : Value) (cl : List UInt8) (j : Nat) : ((List.range (j + 1)).map (mkV cv cl)).flatMap EnV.cells = ((List.range j).map (mkV cv cl)).flatMap EnV.cells ++ [.int .u64 1, .int .u64 (j : Int), .int .u64 0, cv] := by
  rw [List.range_succ, List.map_append, List.flatMap_append]
  rfl
theorem mkE_ok {cl : List UInt8} {k : Nat} (hc : cl.length ≤ 500) (hk : k ≤ 5) : ∀ x ∈ (List.range k).map (mkE cl), x.ok ∧ x.cell.length ≤ 500 := by
  intro x hx
  obtain ⟨i, hi, rfl⟩ := List.mem_map.1 hx
  have := List.mem_range.1 hi
  exact ⟨⟨by simp [mkE], by simp only [mkE]; omega, by simp [mkE], by simp only [mkE]; omega⟩, hc⟩
theorem mkE_first (cl : List UInt8) {k : Nat} (hk : 1 ≤ k) : ∃ L, (List.range k).map (mkE cl) = mkE cl 0 :: L ∧ L.length = k - 1 := by
  obtain ⟨k', rfl⟩ : ∃ k', k = k' + 1 := ⟨k - 1, by omega⟩
  refine ⟨_, by rw [List.range_succ_eq_map, List.map_cons], by simp⟩
theorem mk_ents {w : World} {G F0 : Nat → Prop} {wv cv : Value} {cl : List UInt8} {k : Nat} (ho : Own w G 33 4 wv k (((List.range k).map (mkV cv cl)).flatMap EnV.cells)) (hk : k ≤ 5) (hr : Rd w F0 cv cl.length 1 (cl.map U8)) : Ents w (fun q => G q ∨ F0 q) wv ((List.range k).map (mkE cl)) := by
  refine ⟨(List.range k).map (mkV cv cl), by rw [List.map_map]; rfl, ?_, fun r hr9 => ?_⟩
  · rw [List.length_map, List.length_range]
    exact (ho.rd (by omega)).mono fun q hq => .inl hq
  · obtain ⟨i, _, rfl⟩ := List.mem_map.1 hr9
    exact hr.mono fun q hq => .inr hq

theorem IsWal.State {w : World} {F : Nat → Prop} {p d : Nat} {D : DS} {a side : Int} {turn : Nat} {s : WSt} (hW : IsWal w F p d D a side turn s) (hl : s.log.length ≤ 1000) (hcl : ∀ x ∈ s.log, x.cell.length ≤ 100000) :
    Ret Try.prog 8 #[.pointer (some ⟨p, 0, none⟩)] w fun u w' => ∃ lv', u = .agg (stC s lv') ∧ DEnts w' (New w w') lv' s.log ∧ Upd No w w' := by
  obtain ⟨R, G, lv, h1, _, h3, _⟩ := hW
  exact WState_ok h1 h3 hl hcl
set_option maxHeartbeats 8000000 in
theorem walKeeps.walk {w : World} {F : Nat → Prop} {cv : Value} {cl : List UInt8} {n : Nat} (hr : Rd w F cv cl.length 1 (cl.map U8)) (hn : (n : Int) ≤ 255) : Ret Try.prog 3 #[cv, .int .u8 (n : Int)] w fun v w' => v = .bool true ∧ Upd No w w' := by
  obtain ⟨F0, hr, hF0⟩ : ∃ F' : Nat → Prop, Rd w F' cv cl.length 1 (cl.map U8) ∧ ∀ k, F' k → k < w.heap.size := ⟨_, hr.bound, fun k hk => hk.2⟩
  obtain ⟨Ac, cc, rfl, hcc⟩ := hr.slice_form
  refine enterRet (vs := [_, _]) (N := 107) Try.func3 rfl rfl rfl ?_
  have hU := Upd.refl No w
  refine WC.keep [(0, _), (1, _)] ⟨rfl, rfl, trivial⟩ ?_
  refine WC.seq ?_
  refine WC.region ?_
  refine WL.val rfl rfl rfl rfl (r_assign rfl ev_c) ?_
  refine WL.nil ?_
  refine WX.keep [(0, _), (1, _)] ⟨rfl, rfl, trivial⟩ ?_
  refine WX.next ?_
  refine WC.seq ?_
  refine WC.seq ?_
  refine WC.region ?_
  refine WL.cons (SO.call (awake14_ok _) rfl body_5 trivial rfl rfl rfl rfl ?_)
  rintro v9 w1 ⟨rfl, hu1⟩
  have hs1 := hu1.size
  replace hU := hU.trans hu1 (by first | exact (fun _ _ h => h) | exact (fun _ _ h => h.elim) | (intro k hl hk; (try simp only [At, New, Grow, From, No] at hk ⊢); omega) | (intro k hl hk; first | (simp only [At, No] at hk; omega) | (have := hFW k hk; omega) | (have := hGb k hk; omega) | (have := hFl k hk; omega) | (have := (hG2 k hk).1; omega) | (have := hFW2 k hk; omega) | (have := hFs k hk; omega)))
  refine WL.val rfl rfl rfl rfl (r_not rfl (ev_t rfl)) ?_
  refine WL.val rfl rfl rfl rfl (r_move rfl (ev_t rfl)) ?_
  refine WL.cases 14 rfl (fun hb1_2 => ?_) (fun hb1_2 => ?_)
  · try (exfalso; first | (simp at hb1_2; done) | (simp only [decide_eq_true_eq, decide_eq_false_iff_not, Bool.not_eq_true', Bool.not_eq_false', Bool.not_eq_true, Bool.not_eq_false] at hb1_2; omega) | omega)
    all_goals
     try simp only [decide_eq_true_eq, decide_eq_false_iff_not, Bool.not_eq_true', Bool.not_eq_false', Bool.not_eq_true, Bool.not_eq_false, Option.isNone_none, Option.isNone_some, Option.isSome_none, Option.isSome_some, ne_eq, Decidable.not_not] at hb1_2
     refine WL.skip rfl rfl rfl ?_
     refine WL.skip rfl rfl rfl ?_
     refine WL.skip rfl rfl rfl ?_
     refine WL.val rfl rfl rfl rfl (r_pickT rfl (ev_t rfl) ev_c) ?_
     refine WL.val rfl rfl rfl rfl (r_move rfl (ev_t rfl)) ?_
     refine WL.skip rfl rfl rfl ?_
     refine WL.skip rfl rfl rfl ?_
     refine WL.skip rfl rfl rfl ?_
     refine WL.val rfl rfl rfl rfl (r_pickT rfl (ev_t rfl) ev_c) ?_
     refine WL.nil ?_
     refine WX.keep [(0, _), (1, _), (23, _)] ⟨rfl, rfl, rfl, trivial⟩ ?_
     refine WX.next ?_
     refine WC.cond_true rfl (ev_t rfl) ?_
     refine WC.seq ?_
     refine WC.region ?_
     refine WL.cons (SO.call (awake14_ok _) rfl body_5 trivial rfl rfl rfl rfl ?_)
     rintro v9 w2 ⟨rfl, hu2⟩
     have hs2 := hu2.size
     replace hU := hU.trans hu2 (by first | exact (fun _ _ h => h) | exact (fun _ _ h => h.elim) | (intro k hl hk; (try simp only [At, New, Grow, From, No] at hk ⊢); omega) | (intro k hl hk; first | (simp only [At, No] at hk; omega) | (have := hFW k hk; omega) | (have := hGb k hk; omega) | (have := hFl k hk; omega) | (have := (hG2 k hk).1; omega) | (have := hFW2 k hk; omega) | (have := hFs k hk; omega)))
     refine WL.val rfl rfl rfl rfl (r_assign rfl (ev_t rfl)) ?_
     refine WL.nil ?_
     refine WX.keep [(4, _)] ⟨rfl, trivial⟩ ?_
     refine WX.next ?_
     refine WC.ret ?_
     refine WX.thenRet ?_
     refine WX.retE1 rfl rfl ?_
     exact ⟨rfl, hU⟩
  · try (exfalso; first | (simp at hb1_2; done) | (simp only [decide_eq_true_eq, decide_eq_false_iff_not, Bool.not_eq_true', Bool.not_eq_false', Bool.not_eq_true, Bool.not_eq_false] at hb1_2; omega) | omega)
    all_goals
     try simp only [decide_eq_true_eq, decide_eq_false_iff_not, Bool.not_eq_true', Bool.not_eq_false', Bool.not_eq_true, Bool.not_eq_false, Option.isNone_none, Option.isNone_some, Option.isSome_none, Option.isSome_some, ne_eq, Decidable.not_not] at hb1_2
     refine WL.val rfl rfl rfl rfl (r_move rfl (ev_t rfl)) ?_
     refine WL.val rfl rfl rfl rfl (r_lenSlice (ts := #[]) rfl (ev_t rfl) elem_22) ?_
     refine WL.val rfl rfl rfl rfl (r_eql rfl (ev_t rfl) ev_c) ?_
     refine WL.val rfl rfl rfl rfl (r_pickF rfl (ev_t rfl) (ev_t rfl)) ?_
     refine WL.val rfl rfl rfl rfl (r_move rfl (ev_t rfl)) ?_
     refine WL.cases 19 rfl (fun hb1_7 => ?_) (fun hb1_7 => ?_)
     · try (exfalso; first | (simp at hb1_7; done) | (simp only [decide_eq_true_eq, decide_eq_false_iff_not, Bool.not_eq_true', Bool.not_eq_false', Bool.not_eq_true, Bool.not_eq_false] at hb1_7; omega) | omega)
       all_goals
        try simp only [decide_eq_true_eq, decide_eq_false_iff_not, Bool.not_eq_true', Bool.not_eq_false', Bool.not_eq_true, Bool.not_eq_false, Option.isNone_none, Option.isNone_some, Option.isSome_none, Option.isSome_some, ne_eq, Decidable.not_not] at hb1_7
        refine WL.skip rfl rfl rfl ?_
        refine WL.skip rfl rfl rfl ?_
        refine WL.skip rfl rfl rfl ?_
        refine WL.val rfl rfl rfl rfl (r_pickT rfl (ev_t rfl) ev_c) ?_
        refine WL.nil ?_
        refine WX.keep [(0, _), (1, _), (23, _)] ⟨rfl, rfl, rfl, trivial⟩ ?_
        refine WX.next ?_
        refine WC.cond_true rfl (ev_t rfl) ?_
        refine WC.seq ?_
        refine WC.region ?_
        refine WL.cons (SO.call (awake14_ok _) rfl body_5 trivial rfl rfl rfl rfl ?_)
        rintro v9 w3 ⟨rfl, hu3⟩
        have hs3 := hu3.size
        replace hU := hU.trans hu3 (by first | exact (fun _ _ h => h) | exact (fun _ _ h => h.elim) | (intro k hl hk; (try simp only [At, New, Grow, From, No] at hk ⊢); omega) | (intro k hl hk; first | (simp only [At, No] at hk; omega) | (have := hFW k hk; omega) | (have := hGb k hk; omega) | (have := hFl k hk; omega) | (have := (hG2 k hk).1; omega) | (have := hFW2 k hk; omega) | (have := hFs k hk; omega)))
        refine WL.val rfl rfl rfl rfl (r_assign rfl (ev_t rfl)) ?_
        refine WL.nil ?_
        refine WX.keep [(4, _)] ⟨rfl, trivial⟩ ?_
        refine WX.next ?_
        refine WC.ret ?_
        refine WX.thenRet ?_
        refine WX.retE1 rfl rfl ?_
        exact ⟨rfl, hU⟩
     · try (exfalso; first | (simp at hb1_7; done) | (simp only [decide_eq_true_eq, decide_eq_false_iff_not, Bool.not_eq_true', Bool.not_eq_false', Bool.not_eq_true, Bool.not_eq_false] at hb1_7; omega) | omega)
       all_goals
        try simp only [decide_eq_true_eq, decide_eq_false_iff_not, Bool.not_eq_true', Bool.not_eq_false', Bool.not_eq_true, Bool.not_eq_false, Option.isNone_none, Option.isNone_some, Option.isSome_none, Option.isSome_some, ne_eq, Decidable.not_not] at hb1_7
        refine WL.val rfl rfl rfl rfl (r_move rfl (ev_t rfl)) ?_
        refine WL.val rfl rfl rfl rfl (r_lenSlice (ts := #[]) rfl (ev_t rfl) elem_22) ?_
        refine WL.val rfl rfl rfl rfl (r_gtr rfl (ev_t rfl) ev_c) ?_
        refine WL.val rfl rfl rfl rfl (r_pickF rfl (ev_t rfl) (ev_t rfl)) ?_
        refine WL.nil ?_
        refine WX.keep [(0, _), (1, _), (23, _)] ⟨rfl, rfl, rfl, trivial⟩ ?_
        refine WX.next ?_
        refine WC.cond rfl (ev_t rfl) (fun hc1 => ?_) (fun hc1 => ?_)
        · try (exfalso; first | (simp at hc1; done) | (simp only [decide_eq_true_eq, decide_eq_false_iff_not, Bool.not_eq_true', Bool.not_eq_false', Bool.not_eq_true, Bool.not_eq_false] at hc1; omega) | omega)
          all_goals
           try simp only [decide_eq_true_eq, decide_eq_false_iff_not, Bool.not_eq_true', Bool.not_eq_false', Bool.not_eq_true, Bool.not_eq_false, Option.isNone_none, Option.isNone_some, Option.isSome_none, Option.isSome_some, ne_eq, Decidable.not_not] at hc1
           refine WC.seq ?_
           refine WC.region ?_
           refine WL.cons (SO.call (awake14_ok _) rfl body_5 trivial rfl rfl rfl rfl ?_)
           rintro v9 w4 ⟨rfl, hu4⟩
           have hs4 := hu4.size
           replace hU := hU.trans hu4 (by first | exact (fun _ _ h => h) | exact (fun _ _ h => h.elim) | (intro k hl hk; (try simp only [At, New, Grow, From, No] at hk ⊢); omega) | (intro k hl hk; first | (simp only [At, No] at hk; omega) | (have := hFW k hk; omega) | (have := hGb k hk; omega) | (have := hFl k hk; omega) | (have := (hG2 k hk).1; omega) | (have := hFW2 k hk; omega) | (have := hFs k hk; omega)))
           refine WL.val rfl rfl rfl rfl (r_assign rfl (ev_t rfl)) ?_
           refine WL.nil ?_
           refine WX.keep [(4, _)] ⟨rfl, trivial⟩ ?_
           refine WX.next ?_
           refine WC.ret ?_
           refine WX.thenRet ?_
           refine WX.retE1 rfl rfl ?_
           exact ⟨rfl, hU⟩
        · try (exfalso; first | (simp at hc1; done) | (simp only [decide_eq_true_eq, decide_eq_false_iff_not, Bool.not_eq_true', Bool.not_eq_false', Bool.not_eq_true, Bool.not_eq_false] at hc1; omega) | omega)
          all_goals
           try simp only [decide_eq_true_eq, decide_eq_false_iff_not, Bool.not_eq_true', Bool.not_eq_false', Bool.not_eq_true, Bool.not_eq_false, Option.isNone_none, Option.isNone_some, Option.isSome_none, Option.isSome_some, ne_eq, Decidable.not_not] at hc1
           have hc0 : 0 < cl.length ∧ cl.length ≤ 500 := by omega
           obtain ⟨c, r, hcl⟩ : ∃ c r, cl = c :: r := by cases cl with | nil => simp at hc0 | cons c r => exact ⟨c, r, rfl⟩
           refine WC.skip ?_
           refine WX.next ?_
           refine WC.seq ?_
           refine WC.region ?_
           refine WL.cons (SO.call (open14_ok (m := 20000) (by omega)) rfl body_6 ⟨ev_c, trivial⟩ rfl rfl rfl rfl ?_)
           rintro v9 w5 ⟨d, p, D, rfl, hW, hQ, hu5⟩
           have hs1 := hU.size
           have hFW : ∀ k, New w1 w5 k → w.heap.size ≤ k ∧ k < w5.heap.size := fun k hk => by simp only [New] at hk; omega
           generalize New w1 w5 = FW at hW hFW
           have hs5 := hu5.size
           replace hU := hU.trans hu5 (by first | exact (fun _ _ h => h) | exact (fun _ _ h => h.elim) | (intro k hl hk; (try simp only [At, New, Grow, From, No] at hk ⊢); omega) | (intro k hl hk; first | (simp only [At, No] at hk; omega) | (have := hFW k hk; omega) | (have := hGb k hk; omega) | (have := hFl k hk; omega) | (have := (hG2 k hk).1; omega) | (have := hFW2 k hk; omega) | (have := hFs k hk; omega)))
           refine WL.val rfl rfl rfl rfl (r_move rfl (ev_t rfl)) ?_
           refine WL.val rfl rfl rfl rfl (r_extract rfl (ev_t rfl) rfl) ?_
           refine WL.val rfl rfl rfl rfl (r_extract rfl (ev_t rfl) rfl) ?_
           refine WL.val rfl rfl rfl rfl (r_assign rfl (ev_t rfl)) ?_
           refine WL.val rfl rfl rfl rfl (r_assign rfl (ev_t rfl)) ?_
           refine WL.nil ?_
           refine WX.keep [(0, _), (1, _), (6, _)] ⟨rfl, rfl, rfl, trivial⟩ ?_
           refine WX.next ?_
           refine WC.seq ?_
           refine WC.seq ?_
           refine WC.region ?_
           refine WL.val rfl rfl rfl rfl (r_move rfl (ev_t rfl)) ?_
           refine WL.val rfl rfl rfl rfl (r_eqlPtrNil rfl (ev_t rfl) ev_c ptr_25) ?_
           refine WL.nil ?_
           refine WX.keep [(0, _), (1, _), (6, _), (30, _)] ⟨rfl, rfl, rfl, rfl, trivial⟩ ?_
           refine WX.next ?_
           refine WC.cond rfl (ev_t rfl) (fun hc4 => ?_) (fun hc4 => ?_)
           · try (exfalso; first | (simp at hc4; done) | (simp only [decide_eq_true_eq, decide_eq_false_iff_not, Bool.not_eq_true', Bool.not_eq_false', Bool.not_eq_true, Bool.not_eq_false] at hc4; omega) | omega)
             all_goals
              try simp only [decide_eq_true_eq, decide_eq_false_iff_not, Bool.not_eq_true', Bool.not_eq_false', Bool.not_eq_true, Bool.not_eq_false, Option.isNone_none, Option.isNone_some, Option.isSome_none, Option.isSome_some, ne_eq, Decidable.not_not] at hc4
              refine WC.seq ?_
              refine WC.region ?_
              refine WL.val rfl rfl rfl rfl (r_assign rfl ev_c) ?_
              refine WL.nil ?_
              refine WX.keep [(4, _)] ⟨rfl, trivial⟩ ?_
              refine WX.next ?_
              refine WC.ret ?_
              refine WX.thenRet ?_
              refine WX.retE1 rfl rfl ?_
              exact ⟨rfl, hU⟩
           · try (exfalso; first | (simp at hc4; done) | (simp only [decide_eq_true_eq, decide_eq_false_iff_not, Bool.not_eq_true', Bool.not_eq_false', Bool.not_eq_true, Bool.not_eq_false] at hc4; omega) | omega)
             all_goals
              try simp only [decide_eq_true_eq, decide_eq_false_iff_not, Bool.not_eq_true', Bool.not_eq_false', Bool.not_eq_true, Bool.not_eq_false, Option.isNone_none, Option.isNone_some, Option.isSome_none, Option.isSome_some, ne_eq, Decidable.not_not] at hc4
              refine WC.skip ?_
              refine WX.next ?_
              refine WC.seq ?_
              refine WC.region ?_
              refine WL.val rfl rfl rfl rfl (r_assign rfl ev_c) ?_
              refine WL.nil ?_
              refine WX.keep [(0, _), (1, _), (6, _), (7, _)] ⟨rfl, rfl, rfl, rfl, trivial⟩ ?_
              refine WX.next ?_
              refine WC.seq ?_
              refine WC.region ?_
              refine WL.val rfl rfl rfl rfl (r_move rfl (ev_t rfl)) ?_
              first | refine WL.val rfl rfl rfl rfl (r_convN rfl (ev_t rfl) some_5 int_3 (by simp only [inK]; omega)) ?_ | refine WL.val rfl rfl rfl rfl (r_conv rfl (ev_t rfl) some_5 int_3) ?_
              first | refine WL.val rfl rfl rfl rfl (r_remN rfl (ev_t rfl) ev_c (by omega) (by omega)) ?_ | refine WL.val rfl rfl rfl rfl (r_rem rfl (ev_t rfl) ev_c (by omega)) ?_
              first | refine WL.val rfl rfl rfl rfl (r_addN rfl ev_c (ev_t rfl) (by simp only [inK]; omega)) ?_ | refine WL.val rfl rfl rfl rfl (r_add rfl ev_c (ev_t rfl)) ?_
              refine WL.val rfl rfl rfl rfl (r_assign rfl (ev_t rfl)) ?_
              refine WL.nil ?_
              refine WX.keep [(0, _), (6, _), (7, _), (8, _)] ⟨rfl, rfl, rfl, rfl, trivial⟩ ?_
              obtain ⟨k, hk, hk1, hk5⟩ : ∃ k : Nat, (1 : Int) + (n : Int) % 5 = (k : Int) ∧ 1 ≤ k ∧ k ≤ 5 := ⟨1 + n % 5, by omega, by omega, by omega⟩
              first
                | rw [hk]
                | rw [Int.tmod_eq_emod_of_nonneg (by omega), hk]
              refine WX.next ?_
              refine WC.seq ?_
              refine WC.region ?_
              refine WL.cons (SO.alloc rfl rfl rfl rfl (r_alloc rfl zero_31) ?_)
              intro w6 hu6 hB6 hz6
              have hs6 := hu6.size
              replace hU := hU.trans hu6 (by first | exact (fun _ _ h => h) | exact (fun _ _ h => h.elim) | (intro k hl hk; (try simp only [At, New, Grow, From, No] at hk ⊢); omega) | (intro k hl hk; first | (simp only [At, No] at hk; omega) | (have := hFW k hk; omega) | (have := hGb k hk; omega) | (have := hFl k hk; omega) | (have := (hG2 k hk).1; omega) | (have := hFW2 k hk; omega) | (have := hFs k hk; omega)))
              replace hW := hW.upd hu6 (by first | exact (fun _ _ _ h => h) | (intro k hk hl hS; simp only [At] at hS; have := hFW k hk; omega) | (intro k hk hl hS; have := hFW9 k hk; have := hGb k hS; omega) | (intro k hk hl hS; have := hFW9 k hk; have := hFl k hS; omega) | (intro k hk hl hS; have := hFW9 k hk; have := (hG2 k hS).1; omega) | (intro k hk hl hS; simp only [At] at hS; have := hFW2 k hk; omega))
              refine WL.nil ?_
              refine WX.keep [(0, _), (6, _), (7, _), (8, _), (9, _)] ⟨rfl, rfl, rfl, rfl, rfl, trivial⟩ ?_
              have h9 := hB6
              obtain ⟨b9, hb9⟩ : ∃ q, w5.heap.size = q := ⟨_, rfl⟩
              rw [hb9] at h9 ⊢
              have hFW9 : ∀ k, FW k → k < b9 := fun k hk => by have := hFW k hk; omega
              refine WX.next ?_
              refine WC.seq ?_
              refine WC.region ?_
              first | refine WL.val rfl rfl rfl rfl (r_field0 rfl (ev_t rfl) fld_31_1) ?_ | refine WL.val rfl rfl rfl rfl (r_fieldAt rfl (ev_t rfl) fld_31_1) ?_
              refine WL.cons (SO.store rfl (ev_t rfl) ev_c size_3 h9 rfl rfl rfl rfl rfl ?_)
              intro w7 hu7 h9 hz7
              have hs7 := hu7.size
              replace hU := hU.trans hu7 (by first | exact (fun _ _ h => h) | exact (fun _ _ h => h.elim) | (intro k hl hk; (try simp only [At, New, Grow, From, No] at hk ⊢); omega) | (intro k hl hk; first | (simp only [At, No] at hk; omega) | (have := hFW k hk; omega) | (have := hGb k hk; omega) | (have := hFl k hk; omega) | (have := (hG2 k hk).1; omega) | (have := hFW2 k hk; omega) | (have := hFs k hk; omega)))
              replace hW := hW.upd hu7 (by first | exact (fun _ _ _ h => h) | (intro k hk hl hS; simp only [At] at hS; have := hFW k hk; omega) | (intro k hk hl hS; have := hFW9 k hk; have := hGb k hS; omega) | (intro k hk hl hS; have := hFW9 k hk; have := hFl k hS; omega) | (intro k hk hl hS; have := hFW9 k hk; have := (hG2 k hS).1; omega) | (intro k hk hl hS; simp only [At] at hS; have := hFW2 k hk; omega))
              refine WL.nil ?_
              refine WX.keep [(0, _), (6, _), (7, _), (8, _), (9, _)] ⟨rfl, rfl, rfl, rfl, rfl, trivial⟩ ?_
              refine WX.next ?_
              refine WC.seq ?_
              refine WC.region ?_
              first | refine WL.val rfl rfl rfl rfl (r_field0 rfl (ev_t rfl) fld_31_0) ?_ | refine WL.val rfl rfl rfl rfl (r_fieldAt rfl (ev_t rfl) fld_31_0) ?_
              refine WL.cons (SO.store rfl (ev_t rfl) ev_c size_29 h9 rfl rfl rfl rfl rfl ?_)
              intro w8 hu8 h9 hz8
              have hs8 := hu8.size
              replace hU := hU.trans hu8 (by first | exact (fun _ _ h => h) | exact (fun _ _ h => h.elim) | (intro k hl hk; (try simp only [At, New, Grow, From, No] at hk ⊢); omega) | (intro k hl hk; first | (simp only [At, No] at hk; omega) | (have := hFW k hk; omega) | (have := hGb k hk; omega) | (have := hFl k hk; omega) | (have := (hG2 k hk).1; omega) | (have := hFW2 k hk; omega) | (have := hFs k hk; omega)))
              replace hW := hW.upd hu8 (by first | exact (fun _ _ _ h => h) | (intro k hk hl hS; simp only [At] at hS; have := hFW k hk; omega) | (intro k hk hl hS; have := hFW9 k hk; have := hGb k hS; omega) | (intro k hk hl hS; have := hFW9 k hk; have := hFl k hS; omega) | (intro k hk hl hS; have := hFW9 k hk; have := (hG2 k hS).1; omega) | (intro k hk hl hS; simp only [At] at hS; have := hFW2 k hk; omega))
              refine WL.nil ?_
              refine WX.keep [(0, _), (6, _), (7, _), (8, _), (9, _)] ⟨rfl, rfl, rfl, rfl, rfl, trivial⟩ ?_
              refine WX.next ?_
              refine WC.seq ?_
              refine WC.seq ?_
              refine WC.region ?_
              refine WL.val rfl rfl rfl rfl (r_assign rfl ev_c) ?_
              refine WL.nil ?_
              refine WX.keep [(0, _), (6, _), (7, _), (8, _), (9, _), (10, _)] ⟨rfl, rfl, rfl, rfl, rfl, rfl, trivial⟩ ?_
              refine WX.next ?_
              refine WC.block ?_
              -- loop 1: live [0, 6, 7, 8, 9, 10]
              refine WC.keep [(0, _), (6, _), (7, _), (8, _), (9, _), (10, _)] ⟨rfl, rfl, rfl, rfl, rfl, rfl, trivial⟩ ?_
              refine WC.loop (fun qq E wC => ∃ (j : Nat) (lv wv : Value) (Fl G2 : Nat → Prop), j ≤ k ∧ qq = k - j ∧ Upd No w wC ∧ IsWal wC FW p d D 1 1 1 st0 ∧ b9 < wC.heap.size ∧ Blk wC b9 (stC ⟨7, 2, 0, []⟩ wv) 31 ∧ DEnts wC Fl lv ((List.range j).map (mkE cl)) ∧   Own wC G2 33 4 wv j (((List.range j).map (mkV (.slice Ac cl.length cc) cl)).flatMap EnV.cells) ∧ (∀ q, Fl q → b9 < q ∧ q < wC.heap.size) ∧ (∀ q, G2 q → b9 < q ∧ ¬ Fl q ∧ q < wC.heap.size) ∧   E = [(0, .slice Ac cl.length cc), (6, .pointer (some ⟨p, 0, none⟩)), (7, lv), (8, .int .i64 (k : Int)), (9, .pointer (some ⟨b9, 0, none⟩)), (10, .int .i64 (j : Int))]) (k) ?_ ?_
              · exact ⟨0, .slice none 0 0, .slice none 0 0, fun _ => False, fun _ => False, by omega, by omega, hU, hW, by omega, h9, DEnts.nil _ _, Own.nil _ _ _ _, fun q h => h.elim, fun q h => h.elim, rfl⟩
              · clear hU hW h9
                rintro qq E wC ⟨j, lv, wv, Fl, G2, hj, rfl, hU, hW, hb9C, h9, hDE, hwo, hFl0, hG2, rfl⟩
                have hFl : ∀ q, Fl q → w.heap.size ≤ q ∧ b9 < q ∧ q < wC.heap.size := fun q hq => by have := hFl0 q hq; omega
                obtain ⟨Al, al, rfl, hal⟩ := hDE.form
                obtain ⟨Aw, aw, rfl, haw⟩ := Own.form hwo
                refine WC.seq ?_
                refine WC.seq ?_
                refine WC.region ?_
                refine WL.val rfl rfl rfl rfl (r_move rfl (ev_t rfl)) ?_
                refine WL.val rfl rfl rfl rfl (r_move rfl (ev_t rfl)) ?_
                refine WL.val rfl rfl rfl rfl (r_lss rfl (ev_t rfl) (ev_t rfl)) ?_
                refine WL.nil ?_
                refine WX.keep [(0, _), (6, _), (7, _), (8, _), (9, _), (10, _), (39, _)] ⟨rfl, rfl, rfl, rfl, rfl, rfl, rfl, trivial⟩ ?_
                refine WX.next ?_
                refine WC.cond rfl (ev_t rfl) (fun hc12 => ?_) (fun hc12 => ?_)
                · try (exfalso; first | (simp at hc12; done) | (simp only [decide_eq_true_eq, decide_eq_false_iff_not, Bool.not_eq_true', Bool.not_eq_false', Bool.not_eq_true, Bool.not_eq_false] at hc12; omega) | omega)
                  all_goals
                   try simp only [decide_eq_true_eq, decide_eq_false_iff_not, Bool.not_eq_true', Bool.not_eq_false', Bool.not_eq_true, Bool.not_eq_false, Option.isNone_none, Option.isNone_some, Option.isSome_none, Option.isSome_some, ne_eq, Decidable.not_not] at hc12
                   have hjk : j < k := by omega
                   refine WC.skip ?_
                   refine WX.next ?_
                   refine WC.seq ?_
                   refine WC.block ?_
                   refine WC.seq ?_
                   refine WC.region ?_
                   refine WL.val rfl rfl rfl rfl (r_move rfl (ev_t rfl)) ?_
                   refine WL.val rfl rfl rfl rfl (r_move rfl (ev_t rfl)) ?_
                   first | refine WL.val rfl rfl rfl rfl (r_convN rfl (ev_t rfl) some_3 int_29 (by simp only [inK]; omega)) ?_ | refine WL.val rfl rfl rfl rfl (r_conv rfl (ev_t rfl) some_3 int_29) ?_
                   refine WL.val rfl rfl rfl rfl (r_move rfl (ev_t rfl)) ?_
                   refine WL.cons (SO.append (Own.nil _ No _ _) (hr.upd hU (fun _ _ _ h => h)) row_22 (U8_one _) (le_maxLen (by omega)) (by omega) rfl ev_c (ev_t rfl) rfl rfl rfl rfl ?_)
                   intro v9 w9 hcp hu9
                   have hs9 := hu9.size
                   replace hU := hU.trans hu9 (by first | exact (fun _ _ h => h) | exact (fun _ _ h => h.elim) | (intro k hl hk; (try simp only [At, New, Grow, From, No] at hk ⊢); omega) | (intro k hl hk; first | (simp only [At, No] at hk; omega) | (have := hFW k hk; omega) | (have := hGb k hk; omega) | (have := hFl k hk; omega) | (have := (hG2 k hk).1; omega) | (have := hFW2 k hk; omega) | (have := hFs k hk; omega)))
                   replace hW := hW.upd hu9 (by first | exact (fun _ _ _ h => h) | (intro k hk hl hS; simp only [At] at hS; have := hFW k hk; omega) | (intro k hk hl hS; have := hFW9 k hk; have := hGb k hS; omega) | (intro k hk hl hS; have := hFW9 k hk; have := hFl k hS; omega) | (intro k hk hl hS; have := hFW9 k hk; have := (hG2 k hS).1; omega) | (intro k hk hl hS; simp only [At] at hS; have := hFW2 k hk; omega))
                   replace h9 := h9.upd hu9 (by first | exact (fun h => h) | (simp only [At]; omega) | (intro h; have := hGb _ h; omega) | (intro h; have := hFl _ h; omega) | (intro h; have := (hG2 _ h).1; omega) | (intro h; have := hFW9 _ h; omega) | (intro h; have := hFW2 _ h; omega))
                   replace hDE := hDE.upd hu9 (by first | exact (fun _ _ _ h => h) | (intro q hk hl hS; have h1 := hG2 q hS; have h3 := hF3 q hk; rcases h3.1 with h2 | h2; exact h1.2.1 h2; omega) | (intro q hk hl hS; simp only [At] at hS; have := hFl q hk; omega) | (intro q hk hl hS; have := hFl q hk; have := hFW q hS; have := hFW9 q hS; omega) | (intro q hk hl hS; exact (hG2 q hS).2.1 hk) | (intro q hk hl hS; have := hF3 q hk; simp only [At] at hS; omega))
                   replace hwo := hwo.upd hu9 (by first | exact (fun _ _ _ h => h) | (intro q hk hl hS; simp only [At] at hS; have h1 := hG4 q hk; rcases h1.1 with h | h; have := hG2 q h; omega; omega) | (intro q hk hl hS; simp only [At] at hS; subst hS; exact (hG2 _ hk).2.1 hFgb) | (intro q hk hl hS; simp only [At] at hS; subst hS; exact (hG2 _ hk).2.1 hFg) | (intro q hk hl hS; exact (hG2 q hk).2.1 (hGb q hS).1) | (intro q hk hl hS; simp only [At] at hS; have := hG2 q hk; omega) | (intro q hk hl hS; have := hG2 q hk; have := hFW9 q hS; omega) | (intro q hk hl hS; exact (hG2 q hk).2.1 hS) | (intro q hk hl hS; have := (hG2 q hk).1; have := hF3 q hS; omega))
                   obtain ⟨A9, c9, rfl, hc9⟩ := Own.form hcp
                   rw [Nat.zero_add] at hcp ⊢
                   rw [List.nil_append] at hcp
                   have hCP : ∀ q, Grow No wC w9 q → wC.heap.size ≤ q ∧ q < w9.heap.size := fun q hq => by simp only [Grow, No, false_or] at hq; omega
                   generalize Grow No wC w9 = CP at hcp hCP
                   refine WL.val rfl rfl rfl rfl (r_build (cs := #[_, _, _, _]) (vs := [(0, _), (1, _), (3, _)]) rfl ⟨⟨rfl, ev_c⟩, ⟨rfl, (ev_t rfl)⟩, ⟨rfl, (ev_t rfl)⟩, trivial⟩ plc_33 zero_33 rfl) ?_
                   refine WL.cons (SO.alloc rfl rfl rfl rfl (r_buildSlice (cs := #[_, _, _, _]) (vs := [(0, _)]) rfl ⟨⟨rfl, (ev_t rfl)⟩, trivial⟩ row_28 rfl rfl) ?_)
                   intro w10 hu10 hB10 hz10
                   have hs10 := hu10.size
                   replace hU := hU.trans hu10 (by first | exact (fun _ _ h => h) | exact (fun _ _ h => h.elim) | (intro k hl hk; (try simp only [At, New, Grow, From, No] at hk ⊢); omega) | (intro k hl hk; first | (simp only [At, No] at hk; omega) | (have := hFW k hk; omega) | (have := hGb k hk; omega) | (have := hFl k hk; omega) | (have := (hG2 k hk).1; omega) | (have := hFW2 k hk; omega) | (have := hFs k hk; omega)))
                   replace hW := hW.upd hu10 (by first | exact (fun _ _ _ h => h) | (intro k hk hl hS; simp only [At] at hS; have := hFW k hk; omega) | (intro k hk hl hS; have := hFW9 k hk; have := hGb k hS; omega) | (intro k hk hl hS; have := hFW9 k hk; have := hFl k hS; omega) | (intro k hk hl hS; have := hFW9 k hk; have := (hG2 k hS).1; omega) | (intro k hk hl hS; simp only [At] at hS; have := hFW2 k hk; omega))
                   replace h9 := h9.upd hu10 (by first | exact (fun h => h) | (simp only [At]; omega) | (intro h; have := hGb _ h; omega) | (intro h; have := hFl _ h; omega) | (intro h; have := (hG2 _ h).1; omega) | (intro h; have := hFW9 _ h; omega) | (intro h; have := hFW2 _ h; omega))
                   replace hDE := hDE.upd hu10 (by first | exact (fun _ _ _ h => h) | (intro q hk hl hS; have h1 := hG2 q hS; have h3 := hF3 q hk; rcases h3.1 with h2 | h2; exact h1.2.1 h2; omega) | (intro q hk hl hS; simp only [At] at hS; have := hFl q hk; omega) | (intro q hk hl hS; have := hFl q hk; have := hFW q hS; have := hFW9 q hS; omega) | (intro q hk hl hS; exact (hG2 q hS).2.1 hk) | (intro q hk hl hS; have := hF3 q hk; simp only [At] at hS; omega))
                   replace hwo := hwo.upd hu10 (by first | exact (fun _ _ _ h => h) | (intro q hk hl hS; simp only [At] at hS; have h1 := hG4 q hk; rcases h1.1 with h | h; have := hG2 q h; omega; omega) | (intro q hk hl hS; simp only [At] at hS; subst hS; exact (hG2 _ hk).2.1 hFgb) | (intro q hk hl hS; simp only [At] at hS; subst hS; exact (hG2 _ hk).2.1 hFg) | (intro q hk hl hS; exact (hG2 q hk).2.1 (hGb q hS).1) | (intro q hk hl hS; simp only [At] at hS; have := hG2 q hk; omega) | (intro q hk hl hS; have := hG2 q hk; have := hFW9 q hS; omega) | (intro q hk hl hS; exact (hG2 q hk).2.1 hS) | (intro q hk hl hS; have := (hG2 q hk).1; have := hF3 q hS; omega))
                   replace hcp := hcp.upd hu10 (by first | exact (fun _ _ _ h => h) | (intro q hk hl hS; have := hCP q hk; have := hGb q hS; omega) | (intro q hk hl hS; have := hCP q hk; have := hG2 q hS; omega) | (intro q hk hl hS; simp only [At] at hS; have := hCP q hk; omega))
                   obtain ⟨V, G1, H1, hV, hO, hH, hG1, hH1⟩ := hDE
                   have hGb : ∀ q, G1 q → Fl q ∧ w.heap.size ≤ q ∧ b9 < q ∧ q < wC.heap.size := fun q hq => ⟨(hG1 q hq).1, hFl q (hG1 q hq).1⟩
                   have hVj : V.length = j := by have := congrArg List.length hV; simpa using this
                   have hcp0 := hcp
                   have hq1 := hU.size
                   refine WL.cons (SO.append hO (Rd.of_blk (F := At _) (n := 1) (sz := 4) hB10 rfl rfl (by omega)) row_28 (by intro u hu; simp at hu; rcases hu with rfl | rfl | rfl | rfl <;> rfl) (le_maxLen (by omega)) (by omega) rfl (ev_t rfl) (ev_t rfl) rfl rfl rfl rfl ?_)
                   intro v11 w11 hO2 hu11
                   have hs11 := hu11.size
                   replace hU := hU.trans hu11 (by first | exact (fun _ _ h => h) | exact (fun _ _ h => h.elim) | (intro k hl hk; (try simp only [At, New, Grow, From, No] at hk ⊢); omega) | (intro k hl hk; first | (simp only [At, No] at hk; omega) | (have := hFW k hk; omega) | (have := hGb k hk; omega) | (have := hFl k hk; omega) | (have := (hG2 k hk).1; omega) | (have := hFW2 k hk; omega) | (have := hFs k hk; omega)))
                   replace hW := hW.upd hu11 (by first | exact (fun _ _ _ h => h) | (intro k hk hl hS; simp only [At] at hS; have := hFW k hk; omega) | (intro k hk hl hS; have := hFW9 k hk; have := hGb k hS; omega) | (intro k hk hl hS; have := hFW9 k hk; have := hFl k hS; omega) | (intro k hk hl hS; have := hFW9 k hk; have := (hG2 k hS).1; omega) | (intro k hk hl hS; simp only [At] at hS; have := hFW2 k hk; omega))
                   replace h9 := h9.upd hu11 (by first | exact (fun h => h) | (simp only [At]; omega) | (intro h; have := hGb _ h; omega) | (intro h; have := hFl _ h; omega) | (intro h; have := (hG2 _ h).1; omega) | (intro h; have := hFW9 _ h; omega) | (intro h; have := hFW2 _ h; omega))
                   replace hwo := hwo.upd hu11 (by first | exact (fun _ _ _ h => h) | (intro q hk hl hS; simp only [At] at hS; have h1 := hG4 q hk; rcases h1.1 with h | h; have := hG2 q h; omega; omega) | (intro q hk hl hS; simp only [At] at hS; subst hS; exact (hG2 _ hk).2.1 hFgb) | (intro q hk hl hS; simp only [At] at hS; subst hS; exact (hG2 _ hk).2.1 hFg) | (intro q hk hl hS; exact (hG2 q hk).2.1 (hGb q hS).1) | (intro q hk hl hS; simp only [At] at hS; have := hG2 q hk; omega) | (intro q hk hl hS; have := hG2 q hk; have := hFW9 q hS; omega) | (intro q hk hl hS; exact (hG2 q hk).2.1 hS) | (intro q hk hl hS; have := (hG2 q hk).1; have := hF3 q hS; omega))
                   replace hcp := hcp.upd hu11 (by first | exact (fun _ _ _ h => h) | (intro q hk hl hS; have := hCP q hk; have := hGb q hS; omega) | (intro q hk hl hS; have := hCP q hk; have := hG2 q hS; omega) | (intro q hk hl hS; simp only [At] at hS; have := hCP q hk; omega))
                   obtain ⟨A11, c11, rfl, hc11⟩ := Own.form hO2
                   have hDE := DEnts.snoc (x := mkE cl j) (F' := fun q => Fl q ∨ (wC.heap.size ≤ q ∧ q < w11.heap.size)) hH hG1 hH1 hcp0 (fun q hq => ⟨.inr (by have := hCP q hq; omega), fun h => by have := hGb q h; have := hCP q hq; omega, by have := hCP q hq; omega⟩) hu11 hO2 (fun q hq => .inl hq) (fun q h1 h2 => .inr (by omega))
                   obtain ⟨F3, hF3d⟩ : ∃ F3 : Nat → Prop, F3 = fun q => Fl q ∨ (wC.heap.size ≤ q ∧ q < w11.heap.size) := ⟨_, rfl⟩
                   rw [← hF3d] at hDE
                   have hF3 : ∀ q, F3 q → (Fl q ∨ wC.heap.size ≤ q) ∧ b9 < q ∧ q < w11.heap.size := fun q hq => by
                     have h9 := hu11.size
                     rw [hF3d] at hq
                     rcases hq with h | h
                     · have := hFl q h; exact ⟨.inl h, by omega, by omega⟩
                     · exact ⟨.inr h.1, by omega, h.2⟩
                   clear hF3d
                   rw [hV, ← mkE_succ] at hDE
                   skip
                   refine WL.val rfl rfl rfl rfl (r_assign rfl (ev_t rfl)) ?_
                   refine WL.nil ?_
                   refine WX.keep [(0, _), (6, _), (7, _), (8, _), (9, _), (10, _)] ⟨rfl, rfl, rfl, rfl, rfl, rfl, trivial⟩ ?_
                   refine WX.next ?_
                   refine WC.region ?_
                   first | refine WL.val rfl rfl rfl rfl (r_field0 rfl (ev_t rfl) fld_31_3) ?_ | refine WL.val rfl rfl rfl rfl (r_fieldAt rfl (ev_t rfl) fld_31_3) ?_
                   refine WL.val rfl rfl rfl rfl (r_load rfl (ev_t rfl) flat_28 (Blk.cell h9 rfl)) ?_
                   refine WL.val rfl rfl rfl rfl (r_move rfl (ev_t rfl)) ?_
                   first | refine WL.val rfl rfl rfl rfl (r_convN rfl (ev_t rfl) some_3 int_29 (by simp only [inK]; omega)) ?_ | refine WL.val rfl rfl rfl rfl (r_conv rfl (ev_t rfl) some_3 int_29) ?_
                   refine WL.val rfl rfl rfl rfl (r_move rfl (ev_t rfl)) ?_
                   refine WL.val rfl rfl rfl rfl (r_build (cs := #[_, _, _, _]) (vs := [(0, _), (1, _), (3, _)]) rfl ⟨⟨rfl, ev_c⟩, ⟨rfl, (ev_t rfl)⟩, ⟨rfl, (ev_t rfl)⟩, trivial⟩ plc_33 zero_33 rfl) ?_
                   refine WL.cons (SO.alloc rfl rfl rfl rfl (r_buildSlice (cs := #[_, _, _, _]) (vs := [(0, _)]) rfl ⟨⟨rfl, (ev_t rfl)⟩, trivial⟩ row_28 rfl rfl) ?_)
                   intro w12 hu12 hB12 hz12
                   have hs12 := hu12.size
                   replace hU := hU.trans hu12 (by first | exact (fun _ _ h => h) | exact (fun _ _ h => h.elim) | (intro k hl hk; (try simp only [At, New, Grow, From, No] at hk ⊢); omega) | (intro k hl hk; first | (simp only [At, No] at hk; omega) | (have := hFW k hk; omega) | (have := hGb k hk; omega) | (have := hFl k hk; omega) | (have := (hG2 k hk).1; omega) | (have := hFW2 k hk; omega) | (have := hFs k hk; omega)))
                   replace hW := hW.upd hu12 (by first | exact (fun _ _ _ h => h) | (intro k hk hl hS; simp only [At] at hS; have := hFW k hk; omega) | (intro k hk hl hS; have := hFW9 k hk; have := hGb k hS; omega) | (intro k hk hl hS; have := hFW9 k hk; have := hFl k hS; omega) | (intro k hk hl hS; have := hFW9 k hk; have := (hG2 k hS).1; omega) | (intro k hk hl hS; simp only [At] at hS; have := hFW2 k hk; omega))
                   replace h9 := h9.upd hu12 (by first | exact (fun h => h) | (simp only [At]; omega) | (intro h; have := hGb _ h; omega) | (intro h; have := hFl _ h; omega) | (intro h; have := (hG2 _ h).1; omega) | (intro h; have := hFW9 _ h; omega) | (intro h; have := hFW2 _ h; omega))
                   replace hwo := hwo.upd hu12 (by first | exact (fun _ _ _ h => h) | (intro q hk hl hS; simp only [At] at hS; have h1 := hG4 q hk; rcases h1.1 with h | h; have := hG2 q h; omega; omega) | (intro q hk hl hS; simp only [At] at hS; subst hS; exact (hG2 _ hk).2.1 hFgb) | (intro q hk hl hS; simp only [At] at hS; subst hS; exact (hG2 _ hk).2.1 hFg) | (intro q hk hl hS; exact (hG2 q hk).2.1 (hGb q hS).1) | (intro q hk hl hS; simp only [At] at hS; have := hG2 q hk; omega) | (intro q hk hl hS; have := hG2 q hk; have := hFW9 q hS; omega) | (intro q hk hl hS; exact (hG2 q hk).2.1 hS) | (intro q hk hl hS; have := (hG2 q hk).1; have := hF3 q hS; omega))
                   replace hcp := hcp.upd hu12 (by first | exact (fun _ _ _ h => h) | (intro q hk hl hS; have := hCP q hk; have := hGb q hS; omega) | (intro q hk hl hS; have := hCP q hk; have := hG2 q hS; omega) | (intro q hk hl hS; simp only [At] at hS; have := hCP q hk; omega))
                   replace hDE := hDE.upd hu12 (by first | exact (fun _ _ _ h => h) | (intro q hk hl hS; have h1 := hG2 q hS; have h3 := hF3 q hk; rcases h3.1 with h2 | h2; exact h1.2.1 h2; omega) | (intro q hk hl hS; simp only [At] at hS; have := hFl q hk; omega) | (intro q hk hl hS; have := hFl q hk; have := hFW q hS; have := hFW9 q hS; omega) | (intro q hk hl hS; exact (hG2 q hS).2.1 hk) | (intro q hk hl hS; have := hF3 q hk; simp only [At] at hS; omega))
                   refine WL.cons (SO.append hwo (Rd.of_blk (F := At _) (n := 1) (sz := 4) hB12 rfl rfl (by omega)) row_28 (by intro u hu; simp at hu; rcases hu with rfl | rfl | rfl | rfl <;> rfl) (le_maxLen (by omega)) (by omega) rfl (ev_t rfl) (ev_t rfl) rfl rfl rfl rfl ?_)
                   intro v13 w13 hwo hu13
                   have hs13 := hu13.size
                   replace hU := hU.trans hu13 (by first | exact (fun _ _ h => h) | exact (fun _ _ h => h.elim) | (intro k hl hk; (try simp only [At, New, Grow, From, No] at hk ⊢); omega) | (intro k hl hk; first | (simp only [At, No] at hk; omega) | (have := hFW k hk; omega) | (have := hGb k hk; omega) | (have := hFl k hk; omega) | (have := (hG2 k hk).1; omega) | (have := hFW2 k hk; omega) | (have := hFs k hk; omega)))
                   replace hW := hW.upd hu13 (by first | exact (fun _ _ _ h => h) | (intro k hk hl hS; simp only [At] at hS; have := hFW k hk; omega) | (intro k hk hl hS; have := hFW9 k hk; have := hGb k hS; omega) | (intro k hk hl hS; have := hFW9 k hk; have := hFl k hS; omega) | (intro k hk hl hS; have := hFW9 k hk; have := (hG2 k hS).1; omega) | (intro k hk hl hS; simp only [At] at hS; have := hFW2 k hk; omega))
                   replace h9 := h9.upd hu13 (by first | exact (fun h => h) | (simp only [At]; omega) | (intro h; have := hGb _ h; omega) | (intro h; have := hFl _ h; omega) | (intro h; have := (hG2 _ h).1; omega) | (intro h; have := hFW9 _ h; omega) | (intro h; have := hFW2 _ h; omega))
                   replace hcp := hcp.upd hu13 (by first | exact (fun _ _ _ h => h) | (intro q hk hl hS; have := hCP q hk; have := hGb q hS; omega) | (intro q hk hl hS; have := hCP q hk; have := hG2 q hS; omega) | (intro q hk hl hS; simp only [At] at hS; have := hCP q hk; omega))
                   replace hDE := hDE.upd hu13 (by first | exact (fun _ _ _ h => h) | (intro q hk hl hS; have h1 := hG2 q hS; have h3 := hF3 q hk; rcases h3.1 with h2 | h2; exact h1.2.1 h2; omega) | (intro q hk hl hS; simp only [At] at hS; have := hFl q hk; omega) | (intro q hk hl hS; have := hFl q hk; have := hFW q hS; have := hFW9 q hS; omega) | (intro q hk hl hS; exact (hG2 q hS).2.1 hk) | (intro q hk hl hS; have := hF3 q hk; simp only [At] at hS; omega))
                   obtain ⟨A13, c13, rfl, hc13⟩ := Own.form hwo
                   change Own _ _ _ _ _ _ (_ ++ [.int .u64 1, .int .u64 (j : Int), .int .u64 0, .slice Ac cl.length cc]) at hwo
                   have hG4 : ∀ q, Grow G2 w12 w13 q → (G2 q ∨ w12.heap.size ≤ q) ∧ q < w13.heap.size := fun q hq => by have h9 := hu13.size; rcases hq with h | h; exact ⟨.inl h, by have := hG2 q h; omega⟩; exact ⟨.inr h.1, h.2⟩
                   have hq2 : wC.heap.size ≤ w12.heap.size ∧ ∀ q, F3 q → q < w12.heap.size := ⟨by omega, fun q hq => by have := hF3 q hq; omega⟩
                   obtain ⟨q0, hq0⟩ : ∃ q, w12.heap.size = q := ⟨_, rfl⟩
                   rw [hq0] at hG4 hq2
                   generalize Grow G2 w12 w13 = G4 at hwo hG4
                   first | refine WL.val rfl rfl rfl rfl (r_field0 rfl (ev_t rfl) fld_31_3) ?_ | refine WL.val rfl rfl rfl rfl (r_fieldAt rfl (ev_t rfl) fld_31_3) ?_
                   refine WL.cons (SO.store rfl (ev_t rfl) (ev_t rfl) size_28 h9 rfl rfl rfl rfl rfl ?_)
                   intro w14 hu14 h9 hz14
                   have hs14 := hu14.size
                   replace hU := hU.trans hu14 (by first | exact (fun _ _ h => h) | exact (fun _ _ h => h.elim) | (intro k hl hk; (try simp only [At, New, Grow, From, No] at hk ⊢); omega) | (intro k hl hk; first | (simp only [At, No] at hk; omega) | (have := hFW k hk; omega) | (have := hGb k hk; omega) | (have := hFl k hk; omega) | (have := (hG2 k hk).1; omega) | (have := hFW2 k hk; omega) | (have := hFs k hk; omega)))
                   replace hW := hW.upd hu14 (by first | exact (fun _ _ _ h => h) | (intro k hk hl hS; simp only [At] at hS; have := hFW k hk; omega) | (intro k hk hl hS; have := hFW9 k hk; have := hGb k hS; omega) | (intro k hk hl hS; have := hFW9 k hk; have := hFl k hS; omega) | (intro k hk hl hS; have := hFW9 k hk; have := (hG2 k hS).1; omega) | (intro k hk hl hS; simp only [At] at hS; have := hFW2 k hk; omega))
                   replace hwo := hwo.upd hu14 (by first | exact (fun _ _ _ h => h) | (intro q hk hl hS; simp only [At] at hS; have h1 := hG4 q hk; rcases h1.1 with h | h; have := hG2 q h; omega; omega) | (intro q hk hl hS; simp only [At] at hS; subst hS; exact (hG2 _ hk).2.1 hFgb) | (intro q hk hl hS; simp only [At] at hS; subst hS; exact (hG2 _ hk).2.1 hFg) | (intro q hk hl hS; exact (hG2 q hk).2.1 (hGb q hS).1) | (intro q hk hl hS; simp only [At] at hS; have := hG2 q hk; omega) | (intro q hk hl hS; have := hG2 q hk; have := hFW9 q hS; omega) | (intro q hk hl hS; exact (hG2 q hk).2.1 hS) | (intro q hk hl hS; have := (hG2 q hk).1; have := hF3 q hS; omega))
                   replace hcp := hcp.upd hu14 (by first | exact (fun _ _ _ h => h) | (intro q hk hl hS; have := hCP q hk; have := hGb q hS; omega) | (intro q hk hl hS; have := hCP q hk; have := hG2 q hS; omega) | (intro q hk hl hS; simp only [At] at hS; have := hCP q hk; omega))
                   replace hDE := hDE.upd hu14 (by first | exact (fun _ _ _ h => h) | (intro q hk hl hS; have h1 := hG2 q hS; have h3 := hF3 q hk; rcases h3.1 with h2 | h2; exact h1.2.1 h2; omega) | (intro q hk hl hS; simp only [At] at hS; have := hFl q hk; omega) | (intro q hk hl hS; have := hFl q hk; have := hFW q hS; have := hFW9 q hS; omega) | (intro q hk hl hS; exact (hG2 q hS).2.1 hk) | (intro q hk hl hS; have := hF3 q hk; simp only [At] at hS; omega))
                   refine WL.nil ?_
                   refine WX.keep [(0, _), (6, _), (7, _), (8, _), (9, _), (10, _)] ⟨rfl, rfl, rfl, rfl, rfl, rfl, trivial⟩ ?_
                   refine WX.blockNormal ?_
                   refine WX.next ?_
                   refine WC.region ?_
                   refine WL.val rfl rfl rfl rfl (r_move rfl (ev_t rfl)) ?_
                   first | refine WL.val rfl rfl rfl rfl (r_addN rfl (ev_t rfl) ev_c (by simp only [inK]; omega)) ?_ | refine WL.val rfl rfl rfl rfl (r_add rfl (ev_t rfl) ev_c) ?_
                   refine WL.val rfl rfl rfl rfl (r_assign rfl (ev_t rfl)) ?_
                   refine WL.nil ?_
                   refine WX.keep [(0, _), (6, _), (7, _), (8, _), (9, _), (10, _)] ⟨rfl, rfl, rfl, rfl, rfl, rfl, trivial⟩ ?_
                   refine WX.meet [(0, _), (6, _), (7, _), (8, _), (9, _), (10, _)] ⟨rfl, rfl, rfl, rfl, rfl, rfl, trivial⟩ ?_
                   have hwo2 := hwo
                   refine ⟨k - (j + 1), by omega, j + 1, _, _, F3, G4, by omega, rfl, hU, hW, h9.lt, h9, hDE, by rw [mkV_succ]; exact hwo2, fun q hq => ?_, fun q hq => ?_, rfl⟩
                   · have := hF3 q hq; have := hU.size; have := hq2.2 q hq; omega
                   · have h1 := hG4 q hq
                     rcases h1.1 with h | h
                     · have h2 := hG2 q h
                       exact ⟨h2.1, fun h3 => by rcases (hF3 q h3).1 with h4 | h4; exact h2.2.1 h4; omega, by omega⟩
                     · exact ⟨by omega, fun h3 => by have := hq2.2 q h3; omega, by omega⟩
                · try (exfalso; first | (simp at hc12; done) | (simp only [decide_eq_true_eq, decide_eq_false_iff_not, Bool.not_eq_true', Bool.not_eq_false', Bool.not_eq_true, Bool.not_eq_false] at hc12; omega) | omega)
                  all_goals
                   try simp only [decide_eq_true_eq, decide_eq_false_iff_not, Bool.not_eq_true', Bool.not_eq_false', Bool.not_eq_true, Bool.not_eq_false, Option.isNone_none, Option.isNone_some, Option.isSome_none, Option.isSome_some, ne_eq, Decidable.not_not] at hc12
                   obtain rfl : j = k := by omega
                   have hlen9 : ((List.range j).map (mkE cl)).length = j := by simp
                   have hEo := mkE_ok (k := j) hc0.2 hk5
                   have hroom : ((putA (fun _ => []) 2 (allB 0 (-1) 0 1)) (1 + 1)).length + (recVo 7 2 ++ entB (st0.base + 1 + 0) ((List.range j).map (mkE cl))).length ≤ 20000 := by
                     rw [show (1 + 1 : Nat) = 2 from rfl, putA_same, List.length_append]
                     have h1 := allB_len (t := 0) (v := -1) (b := 0) (n := 1) (by decide) (by simp only [inK]; omega) (by decide) (by decide)
                     have h2 := recVo_len (t := 7) (v := 2) (by decide) (by simp only [inK]; omega)
                     have h3 := entB_lenC (c := 500) (by omega) ((List.range j).map (mkE cl)) (st0.base + 1 + 0) (by rw [hlen9]; simp only [st0]; omega) hEo
                     rw [hlen9] at h3
                     omega
                   have hsC := hU.size
                   refine WC.exit ?_
                   refine WX.thenExit ?_
                   refine WX.thenExit ?_
                   refine WX.blockHere ?_
                   refine WX.next ?_
                   refine WC.seq ?_
                   refine WC.seq ?_
                   refine WC.region ?_
                   refine WL.val rfl rfl rfl rfl (r_move rfl (ev_t rfl)) ?_
                   refine WL.val rfl rfl rfl rfl (r_move rfl (ev_t rfl)) ?_
                   refine WL.cons (SO.call (Save_ok (a := 1) (side := 1) (k0 := 0) (t := 7) (v := 2) (s := st0) (L := (List.range j).map (mkE cl)) (Fl := Fl) hW hQ (by omega) (by omega) (by decide) (by omega) (by simp) (by rw [hlen9]; simp only [st0, List.length_nil]; omega) (by simp [st0]) (hDE.rd (by omega) (fun x hx => by have := (hEo x hx).2; omega)) (by intro h; rw [h] at hlen9; simp at hlen9; omega) (by omega) (fun x hx => by have := hEo x hx; exact ⟨this.1, by omega⟩) (fun q hq h => by have := hFl q hq; have := hFW9 q h; omega) hroom) rfl body_7 ⟨(ev_t rfl), ev_c, ev_c, ev_c, (ev_t rfl), trivial⟩ rfl rfl rfl rfl ?_)
                   rintro v9 w15 ⟨rfl, D1, hW1, hQ1, hu15⟩
                   have hs5 := hu15.size
                   have hFW2 : ∀ q, Grow FW wC w15 q → w.heap.size ≤ q ∧ (q < b9 ∨ wC.heap.size ≤ q) ∧ q < w15.heap.size := fun q hq => by
                     rcases hq with h | h
                     · have := hFW q h; have := hFW9 q h; omega
                     · omega
                   generalize Grow FW wC w15 = FW2 at hW1 hFW2
                   have hW := hW1
                   clear hW1
                   change IsWal _ _ _ _ _ _ _ _ ⟨7, 2, 0, (List.range j).map (mkE cl)⟩ at hW
                   have hs15 := hu15.size
                   replace hU := hU.trans hu15 (by first | exact (fun _ _ h => h) | exact (fun _ _ h => h.elim) | (intro k hl hk; (try simp only [At, New, Grow, From, No] at hk ⊢); omega) | (intro k hl hk; first | (simp only [At, No] at hk; omega) | (have := hFW k hk; omega) | (have := hGb k hk; omega) | (have := hFl k hk; omega) | (have := (hG2 k hk).1; omega) | (have := hFW2 k hk; omega) | (have := hFs k hk; omega)))
                   replace h9 := h9.upd hu15 (by first | exact (fun h => h) | (simp only [At]; omega) | (intro h; have := hGb _ h; omega) | (intro h; have := hFl _ h; omega) | (intro h; have := (hG2 _ h).1; omega) | (intro h; have := hFW9 _ h; omega) | (intro h; have := hFW2 _ h; omega))
                   replace hDE := hDE.upd hu15 (by first | exact (fun _ _ _ h => h) | (intro q hk hl hS; have h1 := hG2 q hS; have h3 := hF3 q hk; rcases h3.1 with h2 | h2; exact h1.2.1 h2; omega) | (intro q hk hl hS; simp only [At] at hS; have := hFl q hk; omega) | (intro q hk hl hS; have := hFl q hk; have := hFW q hS; have := hFW9 q hS; omega) | (intro q hk hl hS; exact (hG2 q hS).2.1 hk) | (intro q hk hl hS; have := hF3 q hk; simp only [At] at hS; omega))
                   replace hwo := hwo.upd hu15 (by first | exact (fun _ _ _ h => h) | (intro q hk hl hS; simp only [At] at hS; have h1 := hG4 q hk; rcases h1.1 with h | h; have := hG2 q h; omega; omega) | (intro q hk hl hS; simp only [At] at hS; subst hS; exact (hG2 _ hk).2.1 hFgb) | (intro q hk hl hS; simp only [At] at hS; subst hS; exact (hG2 _ hk).2.1 hFg) | (intro q hk hl hS; exact (hG2 q hk).2.1 (hGb q hS).1) | (intro q hk hl hS; simp only [At] at hS; have := hG2 q hk; omega) | (intro q hk hl hS; have := hG2 q hk; have := hFW9 q hS; omega) | (intro q hk hl hS; exact (hG2 q hk).2.1 hS) | (intro q hk hl hS; have := (hG2 q hk).1; have := hF3 q hS; omega))
                   refine WL.val rfl rfl rfl rfl (r_neq rfl (ev_t rfl) ev_c) ?_
                   refine WL.nil ?_
                   refine WX.keep [(6, _), (7, _), (9, _), (62, _)] ⟨rfl, rfl, rfl, rfl, trivial⟩ ?_
                   refine WX.next ?_
                   refine WC.cond rfl (ev_t rfl) (fun hc16 => ?_) (fun hc16 => ?_)
                   · try (exfalso; first | (simp at hc16; done) | (simp only [decide_eq_true_eq, decide_eq_false_iff_not, Bool.not_eq_true', Bool.not_eq_false', Bool.not_eq_true, Bool.not_eq_false] at hc16; omega) | omega)
                     all_goals
                      try simp only [decide_eq_true_eq, decide_eq_false_iff_not, Bool.not_eq_true', Bool.not_eq_false', Bool.not_eq_true, Bool.not_eq_false, Option.isNone_none, Option.isNone_some, Option.isSome_none, Option.isSome_some, ne_eq, Decidable.not_not] at hc16
                      refine WC.seq ?_
                      refine WC.region ?_
                      refine WL.val rfl rfl rfl rfl (r_assign rfl ev_c) ?_
                      refine WL.nil ?_
                      refine WX.keep [(4, _)] ⟨rfl, trivial⟩ ?_
                      refine WX.next ?_
                      refine WC.ret ?_
                      refine WX.thenRet ?_
                      refine WX.retE1 rfl rfl ?_
                      exact ⟨rfl, hU⟩
                   · try (exfalso; first | (simp at hc16; done) | (simp only [decide_eq_true_eq, decide_eq_false_iff_not, Bool.not_eq_true', Bool.not_eq_false', Bool.not_eq_true, Bool.not_eq_false] at hc16; omega) | omega)
                     all_goals
                      try simp only [decide_eq_true_eq, decide_eq_false_iff_not, Bool.not_eq_true', Bool.not_eq_false', Bool.not_eq_true, Bool.not_eq_false, Option.isNone_none, Option.isNone_some, Option.isSome_none, Option.isSome_some, ne_eq, Decidable.not_not] at hc16
                      refine WC.skip ?_
                      refine WX.next ?_
                      refine WC.seq ?_
                      obtain ⟨L0, hL0, hLl0⟩ := mkE_first cl hk1
                      have hDE9 := hDE
                      rw [hL0] at hDE9
                      obtain ⟨g, cap, gb, cb, cur, curb, e1, hrB, hc3, hbB, hb0, hFg, hFgb, hne⟩ := hDE9.first (c := c) (r := r) hcl
                      have hgn := hFl g hFg
                      have hgbn := hFl gb hFgb
                      clear hDE9
                      injection e1 with ea eb ec
                      subst ea ec
                      change cur[3]? = some (.slice (some ⟨gb, 0, none⟩) cl.length cb) at hc3
                      have hcz : 3 < cur.size := (Array.getElem?_eq_some_iff.1 hc3).1
                      have hbz : 0 < curb.size := (Array.getElem?_eq_some_iff.1 hb0).1
                      refine WC.draws' (fun u0_ u1_ => Upd No u0_ u1_) (fun j => [0, 0, 0, 0, 0, 0, 0, 1, 0, 1, 0, 0, 2].getD j 0) (.calm 0 (.calm 1 (.calm 2 (.calm 4 (.calm 5 (.calm 6 (.held 3 (.one 7 (.calm 8 (.one 9 (.calm 10 (.calm 11 (.one 12 (.done)))))))))))))) mixed (by kernel_rfl) (by repeat (first | with_reducible exact Deaf.body | with_reducible apply Deaf.then | with_reducible apply Deaf.block)) ?_
                      intro w16 hu16
                      have hz16 := congrArg Array.size hu16.2.2.2
                      replace hu16 := Upd.of_draw hu16
                      have hs16 := hu16.size
                      replace hU := hU.trans hu16 (by first | exact (fun _ _ h => h) | exact (fun _ _ h => h.elim) | (intro k hl hk; (try simp only [At, New, Grow, From, No] at hk ⊢); omega) | (intro k hl hk; first | (simp only [At, No] at hk; omega) | (have := hFW k hk; omega) | (have := hGb k hk; omega) | (have := hFl k hk; omega) | (have := (hG2 k hk).1; omega) | (have := hFW2 k hk; omega) | (have := hFs k hk; omega)))
                      replace hW := hW.upd hu16 (by first | exact (fun _ _ _ h => h) | (intro k hk hl hS; simp only [At] at hS; have := hFW k hk; omega) | (intro k hk hl hS; have := hFW9 k hk; have := hGb k hS; omega) | (intro k hk hl hS; have := hFW9 k hk; have := hFl k hS; omega) | (intro k hk hl hS; have := hFW9 k hk; have := (hG2 k hS).1; omega) | (intro k hk hl hS; simp only [At] at hS; have := hFW2 k hk; omega))
                      replace h9 := h9.upd hu16 (by first | exact (fun h => h) | (simp only [At]; omega) | (intro h; have := hGb _ h; omega) | (intro h; have := hFl _ h; omega) | (intro h; have := (hG2 _ h).1; omega) | (intro h; have := hFW9 _ h; omega) | (intro h; have := hFW2 _ h; omega))
                      replace hwo := hwo.upd hu16 (by first | exact (fun _ _ _ h => h) | (intro q hk hl hS; simp only [At] at hS; have h1 := hG4 q hk; rcases h1.1 with h | h; have := hG2 q h; omega; omega) | (intro q hk hl hS; simp only [At] at hS; subst hS; exact (hG2 _ hk).2.1 hFgb) | (intro q hk hl hS; simp only [At] at hS; subst hS; exact (hG2 _ hk).2.1 hFg) | (intro q hk hl hS; exact (hG2 q hk).2.1 (hGb q hS).1) | (intro q hk hl hS; simp only [At] at hS; have := hG2 q hk; omega) | (intro q hk hl hS; have := hG2 q hk; have := hFW9 q hS; omega) | (intro q hk hl hS; exact (hG2 q hk).2.1 hS) | (intro q hk hl hS; have := (hG2 q hk).1; have := hF3 q hS; omega))
                      replace hrB := hrB.upd hu16 (by first | exact (fun h => h) | (simp only [At]; exact hne) | (simp only [At]; omega))
                      replace hbB := hbB.upd hu16 (by first | exact (fun h => h) | (simp only [At]; exact fun h => hne h.symm) | (simp only [At]; omega))
                      have hS18 := Upd.refl No w16
                      refine WN.calm _ rfl rfl rfl rfl rfl (fun _ => r_move rfl (ev_t rfl)) ?_
                      refine WN.calm _ rfl rfl rfl rfl rfl (fun _ => r_indexAddr rfl (ev_t rfl) ev_c elem_28 size_33 (by omega) (by omega)) ?_
                      first | refine WN.calm _ rfl rfl rfl rfl rfl (fun _ => r_field0 rfl (ev_t rfl) fld_33_3) ?_ | refine WN.calm _ rfl rfl rfl rfl rfl (fun _ => r_fieldAt rfl (ev_t rfl) fld_33_3) ?_
                      refine WN.calm _ rfl rfl rfl rfl rfl (fun _ => r_move rfl (ev_t rfl)) ?_
                      refine WN.calm _ rfl rfl rfl rfl rfl (fun _ => r_indexAddr rfl (ev_t rfl) ev_c elem_28 size_33 (by omega) (by omega)) ?_
                      first | refine WN.calm _ rfl rfl rfl rfl rfl (fun _ => r_field0 rfl (ev_t rfl) fld_33_3) ?_ | refine WN.calm _ rfl rfl rfl rfl rfl (fun _ => r_fieldAt rfl (ev_t rfl) fld_33_3) ?_
                      refine WN.held _ rfl rfl rfl rfl rfl hS18 (fun w' hS => r_load rfl (ev_t rfl) flat_22 (Blk.cell (o := 3) (hrB.upd hS (fun h => h)) hc3)) ?_
                      refine WN.step _ rfl (SO.val rfl rfl rfl rfl (r_load rfl (ev_t rfl) flat_22 (Blk.cell (o := 3) hrB hc3)) ?_)
                      refine ⟨hS18, ?_⟩
                      refine WN.calm _ rfl rfl rfl rfl rfl (fun _ => r_indexAddr rfl (ev_t rfl) ev_c elem_22 size_5 (by omega) (by omega)) ?_
                      refine WN.step _ rfl (SO.val rfl rfl rfl rfl (r_load rfl (ev_t rfl) flat_5 (Blk.cell (o := 0) hbB hb0)) ?_)
                      refine ⟨hS18, ?_⟩
                      refine WN.calm _ rfl rfl rfl rfl rfl (fun _ => r_xor rfl (ev_t rfl) ev_c) ?_
                      refine WN.calm _ rfl rfl rfl rfl rfl (fun _ => r_indexAddr rfl (ev_t rfl) ev_c elem_22 size_5 (by omega) (by omega)) ?_
                      refine WN.step _ rfl (SO.store rfl (ev_t rfl) (ev_t rfl) size_5 hbB (blt_of (by omega)) rfl rfl rfl rfl ?_)
                      intro w17 hu17 hbB hz9
                      have hs17 := hu17.size
                      try replace hS18 := Upd.transA hS18 hu17
                      replace hU := hU.trans hu17 (by first | exact (fun _ _ h => h) | exact (fun _ _ h => h.elim) | (intro k hl hk; (try simp only [At, New, Grow, From, No] at hk ⊢); omega) | (intro k hl hk; first | (simp only [At, No] at hk; omega) | (have := hFW k hk; omega) | (have := hGb k hk; omega) | (have := hFl k hk; omega) | (have := (hG2 k hk).1; omega) | (have := hFW2 k hk; omega) | (have := hFs k hk; omega)))
                      replace hW := hW.upd hu17 (by first | exact (fun _ _ _ h => h) | (intro k hk hl hS; simp only [At] at hS; have := hFW k hk; omega) | (intro k hk hl hS; have := hFW9 k hk; have := hGb k hS; omega) | (intro k hk hl hS; have := hFW9 k hk; have := hFl k hS; omega) | (intro k hk hl hS; have := hFW9 k hk; have := (hG2 k hS).1; omega) | (intro k hk hl hS; simp only [At] at hS; have := hFW2 k hk; omega))
                      replace h9 := h9.upd hu17 (by first | exact (fun h => h) | (simp only [At]; omega) | (intro h; have := hGb _ h; omega) | (intro h; have := hFl _ h; omega) | (intro h; have := (hG2 _ h).1; omega) | (intro h; have := hFW9 _ h; omega) | (intro h; have := hFW2 _ h; omega))
                      replace hwo := hwo.upd hu17 (by first | exact (fun _ _ _ h => h) | (intro q hk hl hS; simp only [At] at hS; have h1 := hG4 q hk; rcases h1.1 with h | h; have := hG2 q h; omega; omega) | (intro q hk hl hS; simp only [At] at hS; subst hS; exact (hG2 _ hk).2.1 hFgb) | (intro q hk hl hS; simp only [At] at hS; subst hS; exact (hG2 _ hk).2.1 hFg) | (intro q hk hl hS; exact (hG2 q hk).2.1 (hGb q hS).1) | (intro q hk hl hS; simp only [At] at hS; have := hG2 q hk; omega) | (intro q hk hl hS; have := hG2 q hk; have := hFW9 q hS; omega) | (intro q hk hl hS; exact (hG2 q hk).2.1 hS) | (intro q hk hl hS; have := (hG2 q hk).1; have := hF3 q hS; omega))
                      replace hrB := hrB.upd hu17 (by first | exact (fun h => h) | (simp only [At]; exact hne) | (simp only [At]; omega))
                      refine ⟨trivial, ?_⟩
                      refine WN.done ?_
                      refine WX.keep [(6, _), (7, _), (9, _)] ⟨rfl, rfl, rfl, trivial⟩ ?_
                      refine WX.next ?_
                      refine WC.seq ?_
                      refine WC.region ?_
                      refine WL.val rfl rfl rfl rfl (r_move rfl (ev_t rfl)) ?_
                      refine WL.val rfl rfl rfl rfl (r_indexAddr rfl (ev_t rfl) ev_c elem_28 size_33 (by omega) (by omega)) ?_
                      first | refine WL.val rfl rfl rfl rfl (r_field0 rfl (ev_t rfl) fld_33_0) ?_ | refine WL.val rfl rfl rfl rfl (r_fieldAt rfl (ev_t rfl) fld_33_0) ?_
                      refine WL.cons (SO.store rfl (ev_t rfl) ev_c size_29 hrB (blt_of (by omega)) rfl rfl rfl rfl ?_)
                      intro w18 hu18 hrB hz9
                      have hs18 := hu18.size
                      replace hU := hU.trans hu18 (by first | exact (fun _ _ h => h) | exact (fun _ _ h => h.elim) | (intro k hl hk; (try simp only [At, New, Grow, From, No] at hk ⊢); omega) | (intro k hl hk; first | (simp only [At, No] at hk; omega) | (have := hFW k hk; omega) | (have := hGb k hk; omega) | (have := hFl k hk; omega) | (have := (hG2 k hk).1; omega) | (have := hFW2 k hk; omega) | (have := hFs k hk; omega)))
                      replace hW := hW.upd hu18 (by first | exact (fun _ _ _ h => h) | (intro k hk hl hS; simp only [At] at hS; have := hFW k hk; omega) | (intro k hk hl hS; have := hFW9 k hk; have := hGb k hS; omega) | (intro k hk hl hS; have := hFW9 k hk; have := hFl k hS; omega) | (intro k hk hl hS; have := hFW9 k hk; have := (hG2 k hS).1; omega) | (intro k hk hl hS; simp only [At] at hS; have := hFW2 k hk; omega))
                      replace h9 := h9.upd hu18 (by first | exact (fun h => h) | (simp only [At]; omega) | (intro h; have := hGb _ h; omega) | (intro h; have := hFl _ h; omega) | (intro h; have := (hG2 _ h).1; omega) | (intro h; have := hFW9 _ h; omega) | (intro h; have := hFW2 _ h; omega))
                      replace hwo := hwo.upd hu18 (by first | exact (fun _ _ _ h => h) | (intro q hk hl hS; simp only [At] at hS; have h1 := hG4 q hk; rcases h1.1 with h | h; have := hG2 q h; omega; omega) | (intro q hk hl hS; simp only [At] at hS; subst hS; exact (hG2 _ hk).2.1 hFgb) | (intro q hk hl hS; simp only [At] at hS; subst hS; exact (hG2 _ hk).2.1 hFg) | (intro q hk hl hS; exact (hG2 q hk).2.1 (hGb q hS).1) | (intro q hk hl hS; simp only [At] at hS; have := hG2 q hk; omega) | (intro q hk hl hS; have := hG2 q hk; have := hFW9 q hS; omega) | (intro q hk hl hS; exact (hG2 q hk).2.1 hS) | (intro q hk hl hS; have := (hG2 q hk).1; have := hF3 q hS; omega))
                      replace hbB := hbB.upd hu18 (by first | exact (fun h => h) | (simp only [At]; exact fun h => hne h.symm) | (simp only [At]; omega))
                      refine WL.nil ?_
                      refine WX.keep [(6, _), (9, _)] ⟨rfl, rfl, trivial⟩ ?_
                      refine WX.next ?_
                      refine WC.seq ?_
                      refine WC.region ?_
                      refine WL.val rfl rfl rfl rfl (r_move rfl (ev_t rfl)) ?_
                      refine WL.cons (SO.call (IsWal.State hW (by show ((List.range j).map (mkE cl)).length ≤ 1000; omega) (fun x hx => by have := (hEo x hx).2; omega)) rfl body_8 ⟨(ev_t rfl), trivial⟩ rfl rfl rfl rfl ?_)
                      rintro v9 w19 ⟨ls, rfl, hDs, hu19⟩
                      change DEnts _ _ _ ((List.range j).map (mkE cl)) at hDs
                      obtain ⟨As, as_, rfl, has⟩ := hDs.form
                      have hFs : ∀ q, New w18 w19 q → w18.heap.size ≤ q ∧ q < w19.heap.size := fun q hq => hq
                      have hpw := hU.size
                      obtain ⟨q9, hq9⟩ : ∃ q, w18.heap.size = q := ⟨_, rfl⟩
                      rw [hq9] at hFs hpw
                      have hq9b : b9 < q9 ∧ gb < q9 ∧ g < q9 := by omega
                      generalize New w18 w19 = Fs at hDs hFs
                      have hs19 := hu19.size
                      replace hU := hU.trans hu19 (by first | exact (fun _ _ h => h) | exact (fun _ _ h => h.elim) | (intro k hl hk; (try simp only [At, New, Grow, From, No] at hk ⊢); omega) | (intro k hl hk; first | (simp only [At, No] at hk; omega) | (have := hFW k hk; omega) | (have := hGb k hk; omega) | (have := hFl k hk; omega) | (have := (hG2 k hk).1; omega) | (have := hFW2 k hk; omega) | (have := hFs k hk; omega)))
                      replace hW := hW.upd hu19 (by first | exact (fun _ _ _ h => h) | (intro k hk hl hS; simp only [At] at hS; have := hFW k hk; omega) | (intro k hk hl hS; have := hFW9 k hk; have := hGb k hS; omega) | (intro k hk hl hS; have := hFW9 k hk; have := hFl k hS; omega) | (intro k hk hl hS; have := hFW9 k hk; have := (hG2 k hS).1; omega) | (intro k hk hl hS; simp only [At] at hS; have := hFW2 k hk; omega))
                      replace h9 := h9.upd hu19 (by first | exact (fun h => h) | (simp only [At]; omega) | (intro h; have := hGb _ h; omega) | (intro h; have := hFl _ h; omega) | (intro h; have := (hG2 _ h).1; omega) | (intro h; have := hFW9 _ h; omega) | (intro h; have := hFW2 _ h; omega))
                      replace hwo := hwo.upd hu19 (by first | exact (fun _ _ _ h => h) | (intro q hk hl hS; simp only [At] at hS; have h1 := hG4 q hk; rcases h1.1 with h | h; have := hG2 q h; omega; omega) | (intro q hk hl hS; simp only [At] at hS; subst hS; exact (hG2 _ hk).2.1 hFgb) | (intro q hk hl hS; simp only [At] at hS; subst hS; exact (hG2 _ hk).2.1 hFg) | (intro q hk hl hS; exact (hG2 q hk).2.1 (hGb q hS).1) | (intro q hk hl hS; simp only [At] at hS; have := hG2 q hk; omega) | (intro q hk hl hS; have := hG2 q hk; have := hFW9 q hS; omega) | (intro q hk hl hS; exact (hG2 q hk).2.1 hS) | (intro q hk hl hS; have := (hG2 q hk).1; have := hF3 q hS; omega))
                      replace hrB := hrB.upd hu19 (by first | exact (fun h => h) | (simp only [At]; exact hne) | (simp only [At]; omega))
                      replace hbB := hbB.upd hu19 (by first | exact (fun h => h) | (simp only [At]; exact fun h => hne h.symm) | (simp only [At]; omega))
                      refine WL.cons (SO.alloc rfl rfl rfl rfl (r_alloc rfl zero_36) ?_)
                      intro w20 hu20 hB20 hz20
                      have hs20 := hu20.size
                      replace hU := hU.trans hu20 (by first | exact (fun _ _ h => h) | exact (fun _ _ h => h.elim) | (intro k hl hk; (try simp only [At, New, Grow, From, No] at hk ⊢); omega) | (intro k hl hk; first | (simp only [At, No] at hk; omega) | (have := hFW k hk; omega) | (have := hGb k hk; omega) | (have := hFl k hk; omega) | (have := (hG2 k hk).1; omega) | (have := hFW2 k hk; omega) | (have := hFs k hk; omega)))
                      replace hW := hW.upd hu20 (by first | exact (fun _ _ _ h => h) | (intro k hk hl hS; simp only [At] at hS; have := hFW k hk; omega) | (intro k hk hl hS; have := hFW9 k hk; have := hGb k hS; omega) | (intro k hk hl hS; have := hFW9 k hk; have := hFl k hS; omega) | (intro k hk hl hS; have := hFW9 k hk; have := (hG2 k hS).1; omega) | (intro k hk hl hS; simp only [At] at hS; have := hFW2 k hk; omega))
                      replace h9 := h9.upd hu20 (by first | exact (fun h => h) | (simp only [At]; omega) | (intro h; have := hGb _ h; omega) | (intro h; have := hFl _ h; omega) | (intro h; have := (hG2 _ h).1; omega) | (intro h; have := hFW9 _ h; omega) | (intro h; have := hFW2 _ h; omega))
                      replace hwo := hwo.upd hu20 (by first | exact (fun _ _ _ h => h) | (intro q hk hl hS; simp only [At] at hS; have h1 := hG4 q hk; rcases h1.1 with h | h; have := hG2 q h; omega; omega) | (intro q hk hl hS; simp only [At] at hS; subst hS; exact (hG2 _ hk).2.1 hFgb) | (intro q hk hl hS; simp only [At] at hS; subst hS; exact (hG2 _ hk).2.1 hFg) | (intro q hk hl hS; exact (hG2 q hk).2.1 (hGb q hS).1) | (intro q hk hl hS; simp only [At] at hS; have := hG2 q hk; omega) | (intro q hk hl hS; have := hG2 q hk; have := hFW9 q hS; omega) | (intro q hk hl hS; exact (hG2 q hk).2.1 hS) | (intro q hk hl hS; have := (hG2 q hk).1; have := hF3 q hS; omega))
                      replace hrB := hrB.upd hu20 (by first | exact (fun h => h) | (simp only [At]; exact hne) | (simp only [At]; omega))
                      replace hbB := hbB.upd hu20 (by first | exact (fun h => h) | (simp only [At]; exact fun h => hne h.symm) | (simp only [At]; omega))
                      replace hDs := hDs.upd hu20 (by first | exact (fun _ _ _ h => h) | (intro q hk hl hS; simp only [At] at hS; have := hFs q hk; omega))
                      refine WL.cons (SO.storeAll (us := [_, _, _, _]) rfl (ev_t rfl) (ev_t rfl) size_36 hB20 rfl rfl rfl rfl rfl ?_)
                      intro w21 hu21 hB20 hz21
                      have hs21 := hu21.size
                      replace hU := hU.trans hu21 (by first | exact (fun _ _ h => h) | exact (fun _ _ h => h.elim) | (intro k hl hk; (try simp only [At, New, Grow, From, No] at hk ⊢); omega) | (intro k hl hk; first | (simp only [At, No] at hk; omega) | (have := hFW k hk; omega) | (have := hGb k hk; omega) | (have := hFl k hk; omega) | (have := (hG2 k hk).1; omega) | (have := hFW2 k hk; omega) | (have := hFs k hk; omega)))
                      replace hW := hW.upd hu21 (by first | exact (fun _ _ _ h => h) | (intro k hk hl hS; simp only [At] at hS; have := hFW k hk; omega) | (intro k hk hl hS; have := hFW9 k hk; have := hGb k hS; omega) | (intro k hk hl hS; have := hFW9 k hk; have := hFl k hS; omega) | (intro k hk hl hS; have := hFW9 k hk; have := (hG2 k hS).1; omega) | (intro k hk hl hS; simp only [At] at hS; have := hFW2 k hk; omega))
                      replace h9 := h9.upd hu21 (by first | exact (fun h => h) | (simp only [At]; omega) | (intro h; have := hGb _ h; omega) | (intro h; have := hFl _ h; omega) | (intro h; have := (hG2 _ h).1; omega) | (intro h; have := hFW9 _ h; omega) | (intro h; have := hFW2 _ h; omega))
                      replace hwo := hwo.upd hu21 (by first | exact (fun _ _ _ h => h) | (intro q hk hl hS; simp only [At] at hS; have h1 := hG4 q hk; rcases h1.1 with h | h; have := hG2 q h; omega; omega) | (intro q hk hl hS; simp only [At] at hS; subst hS; exact (hG2 _ hk).2.1 hFgb) | (intro q hk hl hS; simp only [At] at hS; subst hS; exact (hG2 _ hk).2.1 hFg) | (intro q hk hl hS; exact (hG2 q hk).2.1 (hGb q hS).1) | (intro q hk hl hS; simp only [At] at hS; have := hG2 q hk; omega) | (intro q hk hl hS; have := hG2 q hk; have := hFW9 q hS; omega) | (intro q hk hl hS; exact (hG2 q hk).2.1 hS) | (intro q hk hl hS; have := (hG2 q hk).1; have := hF3 q hS; omega))
                      replace hrB := hrB.upd hu21 (by first | exact (fun h => h) | (simp only [At]; exact hne) | (simp only [At]; omega))
                      replace hbB := hbB.upd hu21 (by first | exact (fun h => h) | (simp only [At]; exact fun h => hne h.symm) | (simp only [At]; omega))
                      replace hDs := hDs.upd hu21 (by first | exact (fun _ _ _ h => h) | (intro q hk hl hS; simp only [At] at hS; have := hFs q hk; omega))
                      refine WL.nil ?_
                      refine WX.keep [(6, _), (9, _), (11, _)] ⟨rfl, rfl, rfl, trivial⟩ ?_
                      have h11 := hB20
                      change Blk _ _ (stC ⟨7, 2, 0, (List.range j).map (mkE cl)⟩ (.slice As _ as_)) _ at h11
                      refine WX.next ?_
                      refine WC.seq ?_
                      refine WC.seq ?_
                      refine WC.draws' (fun u0_ u1_ => Upd No u0_ u1_) (fun j => [0, 1, 0, 2, 0].getD j 0) (.calm 0 (.held 2 (.one 1 (.one 3 (.calm 4 (.done)))))) mixed (by kernel_rfl) (by repeat (first | with_reducible exact Deaf.body | with_reducible apply Deaf.then | with_reducible apply Deaf.block)) ?_
                      intro w22 hu22
                      have hz22 := congrArg Array.size hu22.2.2.2
                      replace hu22 := Upd.of_draw hu22
                      have hs22 := hu22.size
                      replace hU := hU.trans hu22 (by first | exact (fun _ _ h => h) | exact (fun _ _ h => h.elim) | (intro k hl hk; (try simp only [At, New, Grow, From, No] at hk ⊢); omega) | (intro k hl hk; first | (simp only [At, No] at hk; omega) | (have := hFW k hk; omega) | (have := hGb k hk; omega) | (have := hFl k hk; omega) | (have := (hG2 k hk).1; omega) | (have := hFW2 k hk; omega) | (have := hFs k hk; omega)))
                      replace hW := hW.upd hu22 (by first | exact (fun _ _ _ h => h) | (intro k hk hl hS; simp only [At] at hS; have := hFW k hk; omega) | (intro k hk hl hS; have := hFW9 k hk; have := hGb k hS; omega) | (intro k hk hl hS; have := hFW9 k hk; have := hFl k hS; omega) | (intro k hk hl hS; have := hFW9 k hk; have := (hG2 k hS).1; omega) | (intro k hk hl hS; simp only [At] at hS; have := hFW2 k hk; omega))
                      replace h9 := h9.upd hu22 (by first | exact (fun h => h) | (simp only [At]; omega) | (intro h; have := hGb _ h; omega) | (intro h; have := hFl _ h; omega) | (intro h; have := (hG2 _ h).1; omega) | (intro h; have := hFW9 _ h; omega) | (intro h; have := hFW2 _ h; omega))
                      replace hwo := hwo.upd hu22 (by first | exact (fun _ _ _ h => h) | (intro q hk hl hS; simp only [At] at hS; have h1 := hG4 q hk; rcases h1.1 with h | h; have := hG2 q h; omega; omega) | (intro q hk hl hS; simp only [At] at hS; subst hS; exact (hG2 _ hk).2.1 hFgb) | (intro q hk hl hS; simp only [At] at hS; subst hS; exact (hG2 _ hk).2.1 hFg) | (intro q hk hl hS; exact (hG2 q hk).2.1 (hGb q hS).1) | (intro q hk hl hS; simp only [At] at hS; have := hG2 q hk; omega) | (intro q hk hl hS; have := hG2 q hk; have := hFW9 q hS; omega) | (intro q hk hl hS; exact (hG2 q hk).2.1 hS) | (intro q hk hl hS; have := (hG2 q hk).1; have := hF3 q hS; omega))
                      replace hrB := hrB.upd hu22 (by first | exact (fun h => h) | (simp only [At]; exact hne) | (simp only [At]; omega))
                      replace hbB := hbB.upd hu22 (by first | exact (fun h => h) | (simp only [At]; exact fun h => hne h.symm) | (simp only [At]; omega))
                      replace hDs := hDs.upd hu22 (by first | exact (fun _ _ _ h => h) | (intro q hk hl hS; simp only [At] at hS; have := hFs q hk; omega))
                      replace h11 := h11.upd hu22 (by first | exact (fun h => h) | (simp only [At]; omega) | (intro h; have := hFs _ h; omega))
                      have hS21 := Upd.refl No w22
                      refine WN.calm _ rfl rfl rfl rfl rfl (fun _ => r_move rfl (ev_t rfl)) ?_
                      refine WN.held _ rfl rfl rfl rfl rfl hS21 (fun w' hS => r_loadAgg (vs := [_, _, _, _]) rfl (ev_t rfl) agg_31 size_31 (Blk.cellsL (h9.upd hS (fun h => h)))) ?_
                      refine WN.step _ rfl (SO.call (state_ok hW (by show ((List.range j).map (mkE cl)).length ≤ 1000; omega) (fun x hx => by have := (hEo x hx).2; omega)) rfl body_10 ⟨(ev_t rfl), trivial⟩ rfl rfl rfl rfl ?_)
                      rintro v9 w23 ⟨l3, rfl, hD3, hu23⟩
                      change DEnts _ _ _ ((List.range j).map (mkE cl)) at hD3
                      have hE3 := hD3.rd (by omega) (fun x hx => by have := (hEo x hx).2; omega)
                      have hs23 := hu23.size
                      replace hS21 := Upd.transA hS21 hu23
                      replace hU := hU.trans hu23 (by first | exact (fun _ _ h => h) | exact (fun _ _ h => h.elim) | (intro k hl hk; (try simp only [At, New, Grow, From, No] at hk ⊢); omega) | (intro k hl hk; first | (simp only [At, No] at hk; omega) | (have := hFW k hk; omega) | (have := hGb k hk; omega) | (have := hFl k hk; omega) | (have := (hG2 k hk).1; omega) | (have := hFW2 k hk; omega) | (have := hFs k hk; omega)))
                      replace hW := hW.upd hu23 (by first | exact (fun _ _ _ h => h) | (intro k hk hl hS; simp only [At] at hS; have := hFW k hk; omega) | (intro k hk hl hS; have := hFW9 k hk; have := hGb k hS; omega) | (intro k hk hl hS; have := hFW9 k hk; have := hFl k hS; omega) | (intro k hk hl hS; have := hFW9 k hk; have := (hG2 k hS).1; omega) | (intro k hk hl hS; simp only [At] at hS; have := hFW2 k hk; omega))
                      replace h9 := h9.upd hu23 (by first | exact (fun h => h) | (simp only [At]; omega) | (intro h; have := hGb _ h; omega) | (intro h; have := hFl _ h; omega) | (intro h; have := (hG2 _ h).1; omega) | (intro h; have := hFW9 _ h; omega) | (intro h; have := hFW2 _ h; omega))
                      replace hwo := hwo.upd hu23 (by first | exact (fun _ _ _ h => h) | (intro q hk hl hS; simp only [At] at hS; have h1 := hG4 q hk; rcases h1.1 with h | h; have := hG2 q h; omega; omega) | (intro q hk hl hS; simp only [At] at hS; subst hS; exact (hG2 _ hk).2.1 hFgb) | (intro q hk hl hS; simp only [At] at hS; subst hS; exact (hG2 _ hk).2.1 hFg) | (intro q hk hl hS; exact (hG2 q hk).2.1 (hGb q hS).1) | (intro q hk hl hS; simp only [At] at hS; have := hG2 q hk; omega) | (intro q hk hl hS; have := hG2 q hk; have := hFW9 q hS; omega) | (intro q hk hl hS; exact (hG2 q hk).2.1 hS) | (intro q hk hl hS; have := (hG2 q hk).1; have := hF3 q hS; omega))
                      replace hrB := hrB.upd hu23 (by first | exact (fun h => h) | (simp only [At]; exact hne) | (simp only [At]; omega))
                      replace hbB := hbB.upd hu23 (by first | exact (fun h => h) | (simp only [At]; exact fun h => hne h.symm) | (simp only [At]; omega))
                      replace hDs := hDs.upd hu23 (by first | exact (fun _ _ _ h => h) | (intro q hk hl hS; simp only [At] at hS; have := hFs q hk; omega))
                      replace h11 := h11.upd hu23 (by first | exact (fun h => h) | (simp only [At]; omega) | (intro h; have := hFs _ h; omega))
                      refine ⟨hS21, ?_⟩
                      refine WN.step _ rfl (SO.call (Same14_ok (s := ⟨7, 2, 0, (List.range j).map (mkE cl)⟩) hE3 (mk_ents hwo hk5 (hr.upd hU (fun _ _ _ h => h)))) rfl body_9 ⟨(ev_t rfl), (ev_t rfl), trivial⟩ rfl rfl rfl rfl ?_)
                      rintro v9 w24 ⟨rfl, hu24⟩
                      have hs24 := hu24.size
                      try replace hS21 := Upd.transA hS21 hu24
                      replace hU := hU.trans hu24 (by first | exact (fun _ _ h => h) | exact (fun _ _ h => h.elim) | (intro k hl hk; (try simp only [At, New, Grow, From, No] at hk ⊢); omega) | (intro k hl hk; first | (simp only [At, No] at hk; omega) | (have := hFW k hk; omega) | (have := hGb k hk; omega) | (have := hFl k hk; omega) | (have := (hG2 k hk).1; omega) | (have := hFW2 k hk; omega) | (have := hFs k hk; omega)))
                      replace hW := hW.upd hu24 (by first | exact (fun _ _ _ h => h) | (intro k hk hl hS; simp only [At] at hS; have := hFW k hk; omega) | (intro k hk hl hS; have := hFW9 k hk; have := hGb k hS; omega) | (intro k hk hl hS; have := hFW9 k hk; have := hFl k hS; omega) | (intro k hk hl hS; have := hFW9 k hk; have := (hG2 k hS).1; omega) | (intro k hk hl hS; simp only [At] at hS; have := hFW2 k hk; omega))
                      replace h9 := h9.upd hu24 (by first | exact (fun h => h) | (simp only [At]; omega) | (intro h; have := hGb _ h; omega) | (intro h; have := hFl _ h; omega) | (intro h; have := (hG2 _ h).1; omega) | (intro h; have := hFW9 _ h; omega) | (intro h; have := hFW2 _ h; omega))
                      replace hwo := hwo.upd hu24 (by first | exact (fun _ _ _ h => h) | (intro q hk hl hS; simp only [At] at hS; have h1 := hG4 q hk; rcases h1.1 with h | h; have := hG2 q h; omega; omega) | (intro q hk hl hS; simp only [At] at hS; subst hS; exact (hG2 _ hk).2.1 hFgb) | (intro q hk hl hS; simp only [At] at hS; subst hS; exact (hG2 _ hk).2.1 hFg) | (intro q hk hl hS; exact (hG2 q hk).2.1 (hGb q hS).1) | (intro q hk hl hS; simp only [At] at hS; have := hG2 q hk; omega) | (intro q hk hl hS; have := hG2 q hk; have := hFW9 q hS; omega) | (intro q hk hl hS; exact (hG2 q hk).2.1 hS) | (intro q hk hl hS; have := (hG2 q hk).1; have := hF3 q hS; omega))
                      replace hrB := hrB.upd hu24 (by first | exact (fun h => h) | (simp only [At]; exact hne) | (simp only [At]; omega))
                      replace hbB := hbB.upd hu24 (by first | exact (fun h => h) | (simp only [At]; exact fun h => hne h.symm) | (simp only [At]; omega))
                      replace hDs := hDs.upd hu24 (by first | exact (fun _ _ _ h => h) | (intro q hk hl hS; simp only [At] at hS; have := hFs q hk; omega))
                      replace h11 := h11.upd hu24 (by first | exact (fun h => h) | (simp only [At]; omega) | (intro h; have := hFs _ h; omega))
                      replace hE3 := hE3.upd hu24 (fun _ _ _ h => h)
                      refine ⟨trivial, ?_⟩
                      refine WN.calm _ rfl rfl rfl rfl rfl (fun _ => r_not rfl (ev_t rfl)) ?_
                      refine WN.done ?_
                      refine WX.keep [(6, _), (9, _), (11, _), (84, _)] ⟨rfl, rfl, rfl, rfl, trivial⟩ ?_
                      refine WX.next ?_
                      refine WC.cond rfl (ev_t rfl) (fun hc21 => ?_) (fun hc21 => ?_)
                      · try (exfalso; first | (simp at hc21; done) | (simp only [decide_eq_true_eq, decide_eq_false_iff_not, Bool.not_eq_true', Bool.not_eq_false', Bool.not_eq_true, Bool.not_eq_false] at hc21; omega) | omega)
                        all_goals
                         try simp only [decide_eq_true_eq, decide_eq_false_iff_not, Bool.not_eq_true', Bool.not_eq_false', Bool.not_eq_true, Bool.not_eq_false, Option.isNone_none, Option.isNone_some, Option.isSome_none, Option.isSome_some, ne_eq, Decidable.not_not] at hc21
                         refine WC.seq ?_
                         refine WC.region ?_
                         refine WL.val rfl rfl rfl rfl (r_assign rfl ev_c) ?_
                         refine WL.nil ?_
                         refine WX.keep [(4, _)] ⟨rfl, trivial⟩ ?_
                         refine WX.next ?_
                         refine WC.ret ?_
                         refine WX.thenRet ?_
                         refine WX.retE1 rfl rfl ?_
                         exact ⟨rfl, hU⟩
                      · try (exfalso; first | (simp at hc21; done) | (simp only [decide_eq_true_eq, decide_eq_false_iff_not, Bool.not_eq_true', Bool.not_eq_false', Bool.not_eq_true, Bool.not_eq_false] at hc21; omega) | omega)
                        all_goals
                         try simp only [decide_eq_true_eq, decide_eq_false_iff_not, Bool.not_eq_true', Bool.not_eq_false', Bool.not_eq_true, Bool.not_eq_false, Option.isNone_none, Option.isNone_some, Option.isSome_none, Option.isSome_some, ne_eq, Decidable.not_not] at hc21
                         refine WC.skip ?_
                         refine WX.next ?_
                         refine WC.seq ?_
                         have hDs9 := hDs
                         rw [hL0] at hDs9
                         obtain ⟨g2, cap2, gb2, cb2, cur2, curb2, e2, hrC, hd3, hbC, hd0, hFg2, hFgb2, hne2⟩ := hDs9.first (c := c) (r := r) hcl
                         have hgn2 := hFs g2 hFg2
                         have hgbn2 := hFs gb2 hFgb2
                         clear hDs9
                         injection e2 with ea2 eb2 ec2
                         subst ea2 ec2
                         change cur2[3]? = some (.slice (some ⟨gb2, 0, none⟩) cl.length cb2) at hd3
                         have hcz2 : 3 < cur2.size := (Array.getElem?_eq_some_iff.1 hd3).1
                         have hbz2 : 0 < curb2.size := (Array.getElem?_eq_some_iff.1 hd0).1
                         refine WC.draws' (fun u0_ u1_ => Upd No u0_ u1_) (fun j => [0, 0, 0, 0, 0, 0, 1, 0, 0, 1, 0, 1, 0, 0, 2].getD j 0) (.calm 0 (.calm 5 (.held 1 (.calm 2 (.calm 3 (.held 4 (.one 6 (.calm 7 (.calm 8 (.one 9 (.calm 10 (.one 11 (.calm 12 (.calm 13 (.one 14 (.done)))))))))))))))) mixed (by kernel_rfl) (by repeat (first | with_reducible exact Deaf.body | with_reducible apply Deaf.then | with_reducible apply Deaf.block)) ?_
                         intro w25 hu25
                         have hz25 := congrArg Array.size hu25.2.2.2
                         replace hu25 := Upd.of_draw hu25
                         have hs25 := hu25.size
                         replace hU := hU.trans hu25 (by first | exact (fun _ _ h => h) | exact (fun _ _ h => h.elim) | (intro k hl hk; (try simp only [At, New, Grow, From, No] at hk ⊢); omega) | (intro k hl hk; first | (simp only [At, No] at hk; omega) | (have := hFW k hk; omega) | (have := hGb k hk; omega) | (have := hFl k hk; omega) | (have := (hG2 k hk).1; omega) | (have := hFW2 k hk; omega) | (have := hFs k hk; omega)))
                         replace hW := hW.upd hu25 (by first | exact (fun _ _ _ h => h) | (intro k hk hl hS; simp only [At] at hS; have := hFW k hk; omega) | (intro k hk hl hS; have := hFW9 k hk; have := hGb k hS; omega) | (intro k hk hl hS; have := hFW9 k hk; have := hFl k hS; omega) | (intro k hk hl hS; have := hFW9 k hk; have := (hG2 k hS).1; omega) | (intro k hk hl hS; simp only [At] at hS; have := hFW2 k hk; omega))
                         replace h9 := h9.upd hu25 (by first | exact (fun h => h) | (simp only [At]; omega) | (intro h; have := hGb _ h; omega) | (intro h; have := hFl _ h; omega) | (intro h; have := (hG2 _ h).1; omega) | (intro h; have := hFW9 _ h; omega) | (intro h; have := hFW2 _ h; omega))
                         replace hwo := hwo.upd hu25 (by first | exact (fun _ _ _ h => h) | (intro q hk hl hS; simp only [At] at hS; have h1 := hG4 q hk; rcases h1.1 with h | h; have := hG2 q h; omega; omega) | (intro q hk hl hS; simp only [At] at hS; subst hS; exact (hG2 _ hk).2.1 hFgb) | (intro q hk hl hS; simp only [At] at hS; subst hS; exact (hG2 _ hk).2.1 hFg) | (intro q hk hl hS; exact (hG2 q hk).2.1 (hGb q hS).1) | (intro q hk hl hS; simp only [At] at hS; have := hG2 q hk; omega) | (intro q hk hl hS; have := hG2 q hk; have := hFW9 q hS; omega) | (intro q hk hl hS; exact (hG2 q hk).2.1 hS) | (intro q hk hl hS; have := (hG2 q hk).1; have := hF3 q hS; omega))
                         replace h11 := h11.upd hu25 (by first | exact (fun h => h) | (simp only [At]; omega) | (intro h; have := hFs _ h; omega))
                         replace hrC := hrC.upd hu25 (by first | exact (fun h => h) | (simp only [At]; exact hne2) | (simp only [At]; omega))
                         replace hbC := hbC.upd hu25 (by first | exact (fun h => h) | (simp only [At]; exact fun h => hne2 h.symm) | (simp only [At]; omega))
                         have hS23 := Upd.refl No w25
                         first | refine WN.calm _ rfl rfl rfl rfl rfl (fun _ => r_field0 rfl (ev_t rfl) fld_36_3) ?_ | refine WN.calm _ rfl rfl rfl rfl rfl (fun _ => r_fieldAt rfl (ev_t rfl) fld_36_3) ?_
                         first | refine WN.calm _ rfl rfl rfl rfl rfl (fun _ => r_field0 rfl (ev_t rfl) fld_36_3) ?_ | refine WN.calm _ rfl rfl rfl rfl rfl (fun _ => r_fieldAt rfl (ev_t rfl) fld_36_3) ?_
                         refine WN.held _ rfl rfl rfl rfl rfl hS23 (fun w' hS => r_load rfl (ev_t rfl) flat_28 (Blk.cell (h11.upd hS (fun h => h)) rfl)) ?_
                         refine WN.calm _ rfl rfl rfl rfl rfl (fun _ => r_indexAddr rfl (ev_t rfl) ev_c elem_28 size_33 (by omega) (by omega)) ?_
                         first | refine WN.calm _ rfl rfl rfl rfl rfl (fun _ => r_field0 rfl (ev_t rfl) fld_33_3) ?_ | refine WN.calm _ rfl rfl rfl rfl rfl (fun _ => r_fieldAt rfl (ev_t rfl) fld_33_3) ?_
                         refine WN.held _ rfl rfl rfl rfl rfl hS23 (fun w' hS => r_load rfl (ev_t rfl) flat_22 (Blk.cell (o := 3) (hrC.upd hS (fun h => h)) hd3)) ?_
                         refine WN.step _ rfl (SO.val rfl rfl rfl rfl (r_load rfl (ev_t rfl) flat_28 (Blk.cell h11 rfl)) ?_)
                         refine ⟨hS23, ?_⟩
                         refine WN.calm _ rfl rfl rfl rfl rfl (fun _ => r_indexAddr rfl (ev_t rfl) ev_c elem_28 size_33 (by omega) (by omega)) ?_
                         first | refine WN.calm _ rfl rfl rfl rfl rfl (fun _ => r_field0 rfl (ev_t rfl) fld_33_3) ?_ | refine WN.calm _ rfl rfl rfl rfl rfl (fun _ => r_fieldAt rfl (ev_t rfl) fld_33_3) ?_
                         refine WN.step _ rfl (SO.val rfl rfl rfl rfl (r_load rfl (ev_t rfl) flat_22 (Blk.cell (o := 3) hrC hd3)) ?_)
                         refine ⟨hS23, ?_⟩
                         refine WN.calm _ rfl rfl rfl rfl rfl (fun _ => r_indexAddr rfl (ev_t rfl) ev_c elem_22 size_5 (by omega) (by omega)) ?_
                         refine WN.step _ rfl (SO.val rfl rfl rfl rfl (r_load rfl (ev_t rfl) flat_5 (Blk.cell (o := 0) hbC hd0)) ?_)
                         refine ⟨hS23, ?_⟩
                         refine WN.calm _ rfl rfl rfl rfl rfl (fun _ => r_xor rfl (ev_t rfl) ev_c) ?_
                         refine WN.calm _ rfl rfl rfl rfl rfl (fun _ => r_indexAddr rfl (ev_t rfl) ev_c elem_22 size_5 (by omega) (by omega)) ?_
                         refine WN.step _ rfl (SO.store rfl (ev_t rfl) (ev_t rfl) size_5 hbC (blt_of (by omega)) rfl rfl rfl rfl ?_)
                         intro w26 hu26 hbC hz9
                         have hs26 := hu26.size
                         try replace hS23 := Upd.transA hS23 hu26
                         replace hU := hU.trans hu26 (by first | exact (fun _ _ h => h) | exact (fun _ _ h => h.elim) | (intro k hl hk; (try simp only [At, New, Grow, From, No] at hk ⊢); omega) | (intro k hl hk; first | (simp only [At, No] at hk; omega) | (have := hFW k hk; omega) | (have := hGb k hk; omega) | (have := hFl k hk; omega) | (have := (hG2 k hk).1; omega) | (have := hFW2 k hk; omega) | (have := hFs k hk; omega)))
                         replace hW := hW.upd hu26 (by first | exact (fun _ _ _ h => h) | (intro k hk hl hS; simp only [At] at hS; have := hFW k hk; omega) | (intro k hk hl hS; have := hFW9 k hk; have := hGb k hS; omega) | (intro k hk hl hS; have := hFW9 k hk; have := hFl k hS; omega) | (intro k hk hl hS; have := hFW9 k hk; have := (hG2 k hS).1; omega) | (intro k hk hl hS; simp only [At] at hS; have := hFW2 k hk; omega))
                         replace h9 := h9.upd hu26 (by first | exact (fun h => h) | (simp only [At]; omega) | (intro h; have := hGb _ h; omega) | (intro h; have := hFl _ h; omega) | (intro h; have := (hG2 _ h).1; omega) | (intro h; have := hFW9 _ h; omega) | (intro h; have := hFW2 _ h; omega))
                         replace hwo := hwo.upd hu26 (by first | exact (fun _ _ _ h => h) | (intro q hk hl hS; simp only [At] at hS; have h1 := hG4 q hk; rcases h1.1 with h | h; have := hG2 q h; omega; omega) | (intro q hk hl hS; simp only [At] at hS; subst hS; exact (hG2 _ hk).2.1 hFgb) | (intro q hk hl hS; simp only [At] at hS; subst hS; exact (hG2 _ hk).2.1 hFg) | (intro q hk hl hS; exact (hG2 q hk).2.1 (hGb q hS).1) | (intro q hk hl hS; simp only [At] at hS; have := hG2 q hk; omega) | (intro q hk hl hS; have := hG2 q hk; have := hFW9 q hS; omega) | (intro q hk hl hS; exact (hG2 q hk).2.1 hS) | (intro q hk hl hS; have := (hG2 q hk).1; have := hF3 q hS; omega))
                         replace h11 := h11.upd hu26 (by first | exact (fun h => h) | (simp only [At]; omega) | (intro h; have := hFs _ h; omega))
                         replace hrC := hrC.upd hu26 (by first | exact (fun h => h) | (simp only [At]; exact hne2) | (simp only [At]; omega))
                         refine ⟨trivial, ?_⟩
                         refine WN.done ?_
                         refine WX.keep [(6, _), (9, _), (11, _)] ⟨rfl, rfl, rfl, trivial⟩ ?_
                         refine WX.next ?_
                         refine WC.seq ?_
                         refine WC.region ?_
                         first | refine WL.val rfl rfl rfl rfl (r_field0 rfl (ev_t rfl) fld_36_3) ?_ | refine WL.val rfl rfl rfl rfl (r_fieldAt rfl (ev_t rfl) fld_36_3) ?_
                         refine WL.val rfl rfl rfl rfl (r_load rfl (ev_t rfl) flat_28 (Blk.cell h11 rfl)) ?_
                         refine WL.val rfl rfl rfl rfl (r_indexAddr rfl (ev_t rfl) ev_c elem_28 size_33 (by omega) (by omega)) ?_
                         first | refine WL.val rfl rfl rfl rfl (r_field0 rfl (ev_t rfl) fld_33_0) ?_ | refine WL.val rfl rfl rfl rfl (r_fieldAt rfl (ev_t rfl) fld_33_0) ?_
                         refine WL.cons (SO.store rfl (ev_t rfl) ev_c size_29 hrC (blt_of (by omega)) rfl rfl rfl rfl ?_)
                         intro w27 hu27 hrC hz9
                         have hs27 := hu27.size
                         replace hU := hU.trans hu27 (by first | exact (fun _ _ h => h) | exact (fun _ _ h => h.elim) | (intro k hl hk; (try simp only [At, New, Grow, From, No] at hk ⊢); omega) | (intro k hl hk; first | (simp only [At, No] at hk; omega) | (have := hFW k hk; omega) | (have := hGb k hk; omega) | (have := hFl k hk; omega) | (have := (hG2 k hk).1; omega) | (have := hFW2 k hk; omega) | (have := hFs k hk; omega)))
                         replace hW := hW.upd hu27 (by first | exact (fun _ _ _ h => h) | (intro k hk hl hS; simp only [At] at hS; have := hFW k hk; omega) | (intro k hk hl hS; have := hFW9 k hk; have := hGb k hS; omega) | (intro k hk hl hS; have := hFW9 k hk; have := hFl k hS; omega) | (intro k hk hl hS; have := hFW9 k hk; have := (hG2 k hS).1; omega) | (intro k hk hl hS; simp only [At] at hS; have := hFW2 k hk; omega))
                         replace h9 := h9.upd hu27 (by first | exact (fun h => h) | (simp only [At]; omega) | (intro h; have := hGb _ h; omega) | (intro h; have := hFl _ h; omega) | (intro h; have := (hG2 _ h).1; omega) | (intro h; have := hFW9 _ h; omega) | (intro h; have := hFW2 _ h; omega))
                         replace hwo := hwo.upd hu27 (by first | exact (fun _ _ _ h => h) | (intro q hk hl hS; simp only [At] at hS; have h1 := hG4 q hk; rcases h1.1 with h | h; have := hG2 q h; omega; omega) | (intro q hk hl hS; simp only [At] at hS; subst hS; exact (hG2 _ hk).2.1 hFgb) | (intro q hk hl hS; simp only [At] at hS; subst hS; exact (hG2 _ hk).2.1 hFg) | (intro q hk hl hS; exact (hG2 q hk).2.1 (hGb q hS).1) | (intro q hk hl hS; simp only [At] at hS; have := hG2 q hk; omega) | (intro q hk hl hS; have := hG2 q hk; have := hFW9 q hS; omega) | (intro q hk hl hS; exact (hG2 q hk).2.1 hS) | (intro q hk hl hS; have := (hG2 q hk).1; have := hF3 q hS; omega))
                         replace h11 := h11.upd hu27 (by first | exact (fun h => h) | (simp only [At]; omega) | (intro h; have := hFs _ h; omega))
                         replace hbC := hbC.upd hu27 (by first | exact (fun h => h) | (simp only [At]; exact fun h => hne2 h.symm) | (simp only [At]; omega))
                         refine WL.nil ?_
                         refine WX.keep [(6, _), (9, _)] ⟨rfl, rfl, trivial⟩ ?_
                         refine WX.next ?_
                         refine WC.seq ?_
                         refine WC.draws' (fun u0_ u1_ => Upd No u0_ u1_) (fun j => [0, 1, 0, 2, 0].getD j 0) (.calm 0 (.held 2 (.one 1 (.one 3 (.calm 4 (.done)))))) mixed (by kernel_rfl) (by repeat (first | with_reducible exact Deaf.body | with_reducible apply Deaf.then | with_reducible apply Deaf.block)) ?_
                         intro w28 hu28
                         have hz28 := congrArg Array.size hu28.2.2.2
                         replace hu28 := Upd.of_draw hu28
                         have hs28 := hu28.size
                         replace hU := hU.trans hu28 (by first | exact (fun _ _ h => h) | exact (fun _ _ h => h.elim) | (intro k hl hk; (try simp only [At, New, Grow, From, No] at hk ⊢); omega) | (intro k hl hk; first | (simp only [At, No] at hk; omega) | (have := hFW k hk; omega) | (have := hGb k hk; omega) | (have := hFl k hk; omega) | (have := (hG2 k hk).1; omega) | (have := hFW2 k hk; omega) | (have := hFs k hk; omega)))
                         replace hW := hW.upd hu28 (by first | exact (fun _ _ _ h => h) | (intro k hk hl hS; simp only [At] at hS; have := hFW k hk; omega) | (intro k hk hl hS; have := hFW9 k hk; have := hGb k hS; omega) | (intro k hk hl hS; have := hFW9 k hk; have := hFl k hS; omega) | (intro k hk hl hS; have := hFW9 k hk; have := (hG2 k hS).1; omega) | (intro k hk hl hS; simp only [At] at hS; have := hFW2 k hk; omega))
                         replace h9 := h9.upd hu28 (by first | exact (fun h => h) | (simp only [At]; omega) | (intro h; have := hGb _ h; omega) | (intro h; have := hFl _ h; omega) | (intro h; have := (hG2 _ h).1; omega) | (intro h; have := hFW9 _ h; omega) | (intro h; have := hFW2 _ h; omega))
                         replace hwo := hwo.upd hu28 (by first | exact (fun _ _ _ h => h) | (intro q hk hl hS; simp only [At] at hS; have h1 := hG4 q hk; rcases h1.1 with h | h; have := hG2 q h; omega; omega) | (intro q hk hl hS; simp only [At] at hS; subst hS; exact (hG2 _ hk).2.1 hFgb) | (intro q hk hl hS; simp only [At] at hS; subst hS; exact (hG2 _ hk).2.1 hFg) | (intro q hk hl hS; exact (hG2 q hk).2.1 (hGb q hS).1) | (intro q hk hl hS; simp only [At] at hS; have := hG2 q hk; omega) | (intro q hk hl hS; have := hG2 q hk; have := hFW9 q hS; omega) | (intro q hk hl hS; exact (hG2 q hk).2.1 hS) | (intro q hk hl hS; have := (hG2 q hk).1; have := hF3 q hS; omega))
                         replace h11 := h11.upd hu28 (by first | exact (fun h => h) | (simp only [At]; omega) | (intro h; have := hFs _ h; omega))
                         replace hrC := hrC.upd hu28 (by first | exact (fun h => h) | (simp only [At]; exact hne2) | (simp only [At]; omega))
                         replace hbC := hbC.upd hu28 (by first | exact (fun h => h) | (simp only [At]; exact fun h => hne2 h.symm) | (simp only [At]; omega))
                         have hS25 := Upd.refl No w28
                         refine WN.calm _ rfl rfl rfl rfl rfl (fun _ => r_move rfl (ev_t rfl)) ?_
                         refine WN.held _ rfl rfl rfl rfl rfl hS25 (fun w' hS => r_loadAgg (vs := [_, _, _, _]) rfl (ev_t rfl) agg_31 size_31 (Blk.cellsL (h9.upd hS (fun h => h)))) ?_
                         refine WN.step _ rfl (SO.call (state_ok hW (by show ((List.range j).map (mkE cl)).length ≤ 1000; omega) (fun x hx => by have := (hEo x hx).2; omega)) rfl body_10 ⟨(ev_t rfl), trivial⟩ rfl rfl rfl rfl ?_)
                         rintro v9 w29 ⟨l3, rfl, hD3, hu29⟩
                         change DEnts _ _ _ ((List.range j).map (mkE cl)) at hD3
                         have hE3 := hD3.rd (by omega) (fun x hx => by have := (hEo x hx).2; omega)
                         have hs29 := hu29.size
                         replace hS25 := Upd.transA hS25 hu29
                         replace hU := hU.trans hu29 (by first | exact (fun _ _ h => h) | exact (fun _ _ h => h.elim) | (intro k hl hk; (try simp only [At, New, Grow, From, No] at hk ⊢); omega) | (intro k hl hk; first | (simp only [At, No] at hk; omega) | (have := hFW k hk; omega) | (have := hGb k hk; omega) | (have := hFl k hk; omega) | (have := (hG2 k hk).1; omega) | (have := hFW2 k hk; omega) | (have := hFs k hk; omega)))
                         replace hW := hW.upd hu29 (by first | exact (fun _ _ _ h => h) | (intro k hk hl hS; simp only [At] at hS; have := hFW k hk; omega) | (intro k hk hl hS; have := hFW9 k hk; have := hGb k hS; omega) | (intro k hk hl hS; have := hFW9 k hk; have := hFl k hS; omega) | (intro k hk hl hS; have := hFW9 k hk; have := (hG2 k hS).1; omega) | (intro k hk hl hS; simp only [At] at hS; have := hFW2 k hk; omega))
                         replace h9 := h9.upd hu29 (by first | exact (fun h => h) | (simp only [At]; omega) | (intro h; have := hGb _ h; omega) | (intro h; have := hFl _ h; omega) | (intro h; have := (hG2 _ h).1; omega) | (intro h; have := hFW9 _ h; omega) | (intro h; have := hFW2 _ h; omega))
                         replace hwo := hwo.upd hu29 (by first | exact (fun _ _ _ h => h) | (intro q hk hl hS; simp only [At] at hS; have h1 := hG4 q hk; rcases h1.1 with h | h; have := hG2 q h; omega; omega) | (intro q hk hl hS; simp only [At] at hS; subst hS; exact (hG2 _ hk).2.1 hFgb) | (intro q hk hl hS; simp only [At] at hS; subst hS; exact (hG2 _ hk).2.1 hFg) | (intro q hk hl hS; exact (hG2 q hk).2.1 (hGb q hS).1) | (intro q hk hl hS; simp only [At] at hS; have := hG2 q hk; omega) | (intro q hk hl hS; have := hG2 q hk; have := hFW9 q hS; omega) | (intro q hk hl hS; exact (hG2 q hk).2.1 hS) | (intro q hk hl hS; have := (hG2 q hk).1; have := hF3 q hS; omega))
                         replace h11 := h11.upd hu29 (by first | exact (fun h => h) | (simp only [At]; omega) | (intro h; have := hFs _ h; omega))
                         replace hrC := hrC.upd hu29 (by first | exact (fun h => h) | (simp only [At]; exact hne2) | (simp only [At]; omega))
                         replace hbC := hbC.upd hu29 (by first | exact (fun h => h) | (simp only [At]; exact fun h => hne2 h.symm) | (simp only [At]; omega))
                         refine ⟨hS25, ?_⟩
                         refine WN.step _ rfl (SO.call (Same14_ok (s := ⟨7, 2, 0, (List.range j).map (mkE cl)⟩) hE3 (mk_ents hwo hk5 (hr.upd hU (fun _ _ _ h => h)))) rfl body_9 ⟨(ev_t rfl), (ev_t rfl), trivial⟩ rfl rfl rfl rfl ?_)
                         rintro v9 w30 ⟨rfl, hu30⟩
                         have hs30 := hu30.size
                         try replace hS25 := Upd.transA hS25 hu30
                         replace hU := hU.trans hu30 (by first | exact (fun _ _ h => h) | exact (fun _ _ h => h.elim) | (intro k hl hk; (try simp only [At, New, Grow, From, No] at hk ⊢); omega) | (intro k hl hk; first | (simp only [At, No] at hk; omega) | (have := hFW k hk; omega) | (have := hGb k hk; omega) | (have := hFl k hk; omega) | (have := (hG2 k hk).1; omega) | (have := hFW2 k hk; omega) | (have := hFs k hk; omega)))
                         replace hW := hW.upd hu30 (by first | exact (fun _ _ _ h => h) | (intro k hk hl hS; simp only [At] at hS; have := hFW k hk; omega) | (intro k hk hl hS; have := hFW9 k hk; have := hGb k hS; omega) | (intro k hk hl hS; have := hFW9 k hk; have := hFl k hS; omega) | (intro k hk hl hS; have := hFW9 k hk; have := (hG2 k hS).1; omega) | (intro k hk hl hS; simp only [At] at hS; have := hFW2 k hk; omega))
                         replace h9 := h9.upd hu30 (by first | exact (fun h => h) | (simp only [At]; omega) | (intro h; have := hGb _ h; omega) | (intro h; have := hFl _ h; omega) | (intro h; have := (hG2 _ h).1; omega) | (intro h; have := hFW9 _ h; omega) | (intro h; have := hFW2 _ h; omega))
                         replace hwo := hwo.upd hu30 (by first | exact (fun _ _ _ h => h) | (intro q hk hl hS; simp only [At] at hS; have h1 := hG4 q hk; rcases h1.1 with h | h; have := hG2 q h; omega; omega) | (intro q hk hl hS; simp only [At] at hS; subst hS; exact (hG2 _ hk).2.1 hFgb) | (intro q hk hl hS; simp only [At] at hS; subst hS; exact (hG2 _ hk).2.1 hFg) | (intro q hk hl hS; exact (hG2 q hk).2.1 (hGb q hS).1) | (intro q hk hl hS; simp only [At] at hS; have := hG2 q hk; omega) | (intro q hk hl hS; have := hG2 q hk; have := hFW9 q hS; omega) | (intro q hk hl hS; exact (hG2 q hk).2.1 hS) | (intro q hk hl hS; have := (hG2 q hk).1; have := hF3 q hS; omega))
                         replace h11 := h11.upd hu30 (by first | exact (fun h => h) | (simp only [At]; omega) | (intro h; have := hFs _ h; omega))
                         replace hrC := hrC.upd hu30 (by first | exact (fun h => h) | (simp only [At]; exact hne2) | (simp only [At]; omega))
                         replace hbC := hbC.upd hu30 (by first | exact (fun h => h) | (simp only [At]; exact fun h => hne2 h.symm) | (simp only [At]; omega))
                         replace hE3 := hE3.upd hu30 (fun _ _ _ h => h)
                         refine ⟨trivial, ?_⟩
                         refine WN.calm _ rfl rfl rfl rfl rfl (fun _ => r_assign rfl (ev_t rfl)) ?_
                         refine WN.done ?_
                         refine WX.keep [(4, _)] ⟨rfl, trivial⟩ ?_
                         refine WX.next ?_
                         refine WC.ret ?_
                         refine WX.retE1 rfl rfl ?_
                         exact ⟨rfl, hU⟩
end Go.Proofs.Ytnjfhmlfpfkllaa
