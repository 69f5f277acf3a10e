/-
  Several texts put together: Wbg, Wf, Wbh, Wt, Wbj, WaO.
-/
import Derived.Test.YtnjfhmlfpfkllaaZe
/-
  The reference's Same; law 14's open and state.
-/
namespace Go.Proofs.Ytnjfhmlfpfkllaa
open Go
set_option linter.unusedSimpArgs false
set_option linter.unusedVariables false

set_option maxHeartbeats 2000000 in
theorem SameEntry_ok {w : World} {F F' : Nat → Prop} {x : En} {cv cv' : Value} (h : Rd w F cv x.cell.length 1 (x.cell.map U8)) (h' : Rd w F' cv' x.cell.length 1 (x.cell.map U8)) :
    Ret Try.prog 21 #[.agg #[.int .u64 (x.term : Int), .int .u64 (x.ses : Int), .int .u64 (x.num : Int), cv], .agg #[.int .u64 (x.term : Int), .int .u64 (x.ses : Int), .int .u64 (x.num : Int), cv']] w fun u w' => u = .bool true ∧ Upd No w w' := by
  refine enterRet (vs := [_, _]) (N := 33) Try.func21 rfl rfl rfl ?_
  have hU := Upd.refl No w
  refine WC.keep [(0, _), (1, _)] ⟨rfl, rfl, trivial⟩ ?_
  refine WC.seq ?_
  refine WC.region ?_
  refine WL.cons (SO.alloc rfl rfl rfl rfl (r_boxAgg rfl (ev_t rfl)) ?_)
  intro w1 hu1 hB1 hz1
  have hs1 := hu1.size
  replace hU := hU.transA hu1
  have h2 := hB1
  refine WL.cons (SO.alloc rfl rfl rfl rfl (r_boxAgg rfl (ev_t rfl)) ?_)
  intro w2 hu2 hB2 hz2
  have hs2 := hu2.size
  replace hU := hU.transA hu2
  replace hB1 := hB1.updA hu2
  replace h2 := h2.upd hu2 (fun h => h)
  refine WL.val rfl rfl rfl rfl (r_assign rfl ev_c) ?_
  refine WL.nil ?_
  refine WX.keep [(2, _), (3, _)] ⟨rfl, rfl, trivial⟩ ?_
  have h3 := hB2
  refine WX.next ?_
  refine WC.seq ?_
  refine WC.region ?_
  first | refine WL.val rfl rfl rfl rfl (r_field0 rfl (ev_t rfl) fld_33_0) ?_ | refine WL.val rfl rfl rfl rfl (r_fieldAt rfl (ev_t rfl) fld_33_0) ?_
  refine WL.val rfl rfl rfl rfl (r_load rfl (ev_t rfl) flat_29 (Blk.cell h2 rfl)) ?_
  first | refine WL.val rfl rfl rfl rfl (r_field0 rfl (ev_t rfl) fld_33_0) ?_ | refine WL.val rfl rfl rfl rfl (r_fieldAt rfl (ev_t rfl) fld_33_0) ?_
  refine WL.val rfl rfl rfl rfl (r_load rfl (ev_t rfl) flat_29 (Blk.cell h3 rfl)) ?_
  refine WL.val rfl rfl rfl rfl (r_eql rfl (ev_t rfl) (ev_t rfl)) ?_
  refine WL.val rfl rfl rfl rfl (r_move rfl (ev_t rfl)) ?_
  refine WL.cases 10 rfl (fun hb1_5 => ?_) (fun hb1_5 => ?_)
  · try (exfalso; first | (simp at hb1_5; done) | (simp only [decide_eq_true_eq, decide_eq_false_iff_not, Bool.not_eq_true', Bool.not_eq_false', Bool.not_eq_true, Bool.not_eq_false] at hb1_5; omega) | omega)
    all_goals
     try simp only [decide_eq_true_eq, decide_eq_false_iff_not, Bool.not_eq_true', Bool.not_eq_false', Bool.not_eq_true, Bool.not_eq_false, Option.isNone_none, Option.isNone_some, Option.isSome_none, Option.isSome_some, ne_eq, Decidable.not_not] at hb1_5
     first | refine WL.val rfl rfl rfl rfl (r_field0 rfl (ev_t rfl) fld_33_1) ?_ | refine WL.val rfl rfl rfl rfl (r_fieldAt rfl (ev_t rfl) fld_33_1) ?_
     refine WL.val rfl rfl rfl rfl (r_load rfl (ev_t rfl) flat_29 (Blk.cell h2 rfl)) ?_
     first | refine WL.val rfl rfl rfl rfl (r_field0 rfl (ev_t rfl) fld_33_1) ?_ | refine WL.val rfl rfl rfl rfl (r_fieldAt rfl (ev_t rfl) fld_33_1) ?_
     refine WL.val rfl rfl rfl rfl (r_load rfl (ev_t rfl) flat_29 (Blk.cell h3 rfl)) ?_
     refine WL.val rfl rfl rfl rfl (r_eql rfl (ev_t rfl) (ev_t rfl)) ?_
     refine WL.val rfl rfl rfl rfl (r_pickT rfl (ev_t rfl) (ev_t rfl)) ?_
     refine WL.val rfl rfl rfl rfl (r_move rfl (ev_t rfl)) ?_
     refine WL.cases 17 rfl (fun hb1_12 => ?_) (fun hb1_12 => ?_)
     · try (exfalso; first | (simp at hb1_12; done) | (simp only [decide_eq_true_eq, decide_eq_false_iff_not, Bool.not_eq_true', Bool.not_eq_false', Bool.not_eq_true, Bool.not_eq_false] at hb1_12; omega) | omega)
       all_goals
        try simp only [decide_eq_true_eq, decide_eq_false_iff_not, Bool.not_eq_true', Bool.not_eq_false', Bool.not_eq_true, Bool.not_eq_false, Option.isNone_none, Option.isNone_some, Option.isSome_none, Option.isSome_some, ne_eq, Decidable.not_not] at hb1_12
        first | refine WL.val rfl rfl rfl rfl (r_field0 rfl (ev_t rfl) fld_33_2) ?_ | refine WL.val rfl rfl rfl rfl (r_fieldAt rfl (ev_t rfl) fld_33_2) ?_
        refine WL.val rfl rfl rfl rfl (r_load rfl (ev_t rfl) flat_29 (Blk.cell h2 rfl)) ?_
        first | refine WL.val rfl rfl rfl rfl (r_field0 rfl (ev_t rfl) fld_33_2) ?_ | refine WL.val rfl rfl rfl rfl (r_fieldAt rfl (ev_t rfl) fld_33_2) ?_
        refine WL.val rfl rfl rfl rfl (r_load rfl (ev_t rfl) flat_29 (Blk.cell h3 rfl)) ?_
        refine WL.val rfl rfl rfl rfl (r_eql rfl (ev_t rfl) (ev_t rfl)) ?_
        refine WL.val rfl rfl rfl rfl (r_pickT rfl (ev_t rfl) (ev_t rfl)) ?_
        refine WL.val rfl rfl rfl rfl (r_move rfl (ev_t rfl)) ?_
        refine WL.cases 24 rfl (fun hb1_19 => ?_) (fun hb1_19 => ?_)
        · try (exfalso; first | (simp at hb1_19; done) | (simp only [decide_eq_true_eq, decide_eq_false_iff_not, Bool.not_eq_true', Bool.not_eq_false', Bool.not_eq_true, Bool.not_eq_false] at hb1_19; omega) | omega)
          all_goals
           try simp only [decide_eq_true_eq, decide_eq_false_iff_not, Bool.not_eq_true', Bool.not_eq_false', Bool.not_eq_true, Bool.not_eq_false, Option.isNone_none, Option.isNone_some, Option.isSome_none, Option.isSome_some, ne_eq, Decidable.not_not] at hb1_19
           first | refine WL.val rfl rfl rfl rfl (r_field0 rfl (ev_t rfl) fld_33_3) ?_ | refine WL.val rfl rfl rfl rfl (r_fieldAt rfl (ev_t rfl) fld_33_3) ?_
           refine WL.val rfl rfl rfl rfl (r_load rfl (ev_t rfl) flat_22 (Blk.cell h2 rfl)) ?_
           refine WL.val rfl rfl rfl rfl (r_toStr rfl (ev_t rfl) (h.upd hU (fun _ _ _ h => h)) elem_22 int_5 str_9) ?_
           first | refine WL.val rfl rfl rfl rfl (r_field0 rfl (ev_t rfl) fld_33_3) ?_ | refine WL.val rfl rfl rfl rfl (r_fieldAt rfl (ev_t rfl) fld_33_3) ?_
           refine WL.val rfl rfl rfl rfl (r_load rfl (ev_t rfl) flat_22 (Blk.cell h3 rfl)) ?_
           refine WL.val rfl rfl rfl rfl (r_toStr rfl (ev_t rfl) (h'.upd hU (fun _ _ _ h => h)) elem_22 int_5 str_9) ?_
           refine WL.val rfl rfl rfl rfl (r_eqlStrL rfl (ev_t rfl) (ev_t rfl)) ?_
           refine WL.val rfl rfl rfl rfl (r_pickT rfl (ev_t rfl) (ev_t rfl)) ?_
           refine WL.val rfl rfl rfl rfl (r_assign rfl (ev_t rfl)) ?_
           refine WL.nil ?_
           refine WX.keep [(4, _)] ⟨rfl, trivial⟩ ?_
           refine WX.next ?_
           refine WC.ret ?_
           refine WX.retE1 rfl rfl ?_
           exact ⟨by simp, hU⟩
        · try (exfalso; first | (simp at hb1_19; done) | (simp only [decide_eq_true_eq, decide_eq_false_iff_not, Bool.not_eq_true', Bool.not_eq_false', Bool.not_eq_true, Bool.not_eq_false] at hb1_19; omega) | omega)
          all_goals
           try simp only [decide_eq_true_eq, decide_eq_false_iff_not, Bool.not_eq_true', Bool.not_eq_false', Bool.not_eq_true, Bool.not_eq_false, Option.isNone_none, Option.isNone_some, Option.isSome_none, Option.isSome_some, ne_eq, Decidable.not_not] at hb1_19
           refine WL.skip rfl rfl rfl ?_
           refine WL.skip rfl rfl rfl ?_
           refine WL.skip rfl rfl rfl ?_
           refine WL.skip rfl rfl rfl ?_
           refine WL.skip rfl rfl rfl ?_
           refine WL.skip rfl rfl rfl ?_
           refine WL.skip rfl rfl rfl ?_
           refine WL.val rfl rfl rfl rfl (r_pickF rfl (ev_t rfl) ev_c) ?_
           refine WL.val rfl rfl rfl rfl (r_assign rfl (ev_t rfl)) ?_
           refine WL.nil ?_
           refine WX.keep [(4, _)] ⟨rfl, trivial⟩ ?_
           refine WX.next ?_
           refine WC.ret ?_
           refine WX.retE1 rfl rfl ?_
           exact ⟨by simp, hU⟩
     · try (exfalso; first | (simp at hb1_12; done) | (simp only [decide_eq_true_eq, decide_eq_false_iff_not, Bool.not_eq_true', Bool.not_eq_false', Bool.not_eq_true, Bool.not_eq_false] at hb1_12; omega) | omega)
       all_goals
        try simp only [decide_eq_true_eq, decide_eq_false_iff_not, Bool.not_eq_true', Bool.not_eq_false', Bool.not_eq_true, Bool.not_eq_false, Option.isNone_none, Option.isNone_some, Option.isSome_none, Option.isSome_some, ne_eq, Decidable.not_not] at hb1_12
        refine WL.skip rfl rfl rfl ?_
        refine WL.skip rfl rfl rfl ?_
        refine WL.skip rfl rfl rfl ?_
        refine WL.skip rfl rfl rfl ?_
        refine WL.skip rfl rfl rfl ?_
        refine WL.val rfl rfl rfl rfl (r_pickF rfl (ev_t rfl) ev_c) ?_
        refine WL.val rfl rfl rfl rfl (r_move rfl (ev_t rfl)) ?_
        refine WL.skip rfl rfl rfl ?_
        refine WL.skip rfl rfl rfl ?_
        refine WL.skip rfl rfl rfl ?_
        refine WL.skip rfl rfl rfl ?_
        refine WL.skip rfl rfl rfl ?_
        refine WL.skip rfl rfl rfl ?_
        refine WL.skip rfl rfl rfl ?_
        refine WL.val rfl rfl rfl rfl (r_pickF rfl (ev_t rfl) ev_c) ?_
        refine WL.val rfl rfl rfl rfl (r_assign rfl (ev_t rfl)) ?_
        refine WL.nil ?_
        refine WX.keep [(4, _)] ⟨rfl, trivial⟩ ?_
        refine WX.next ?_
        refine WC.ret ?_
        refine WX.retE1 rfl rfl ?_
        exact ⟨by simp, hU⟩
  · try (exfalso; first | (simp at hb1_5; done) | (simp only [decide_eq_true_eq, decide_eq_false_iff_not, Bool.not_eq_true', Bool.not_eq_false', Bool.not_eq_true, Bool.not_eq_false] at hb1_5; omega) | omega)
    all_goals
     try simp only [decide_eq_true_eq, decide_eq_false_iff_not, Bool.not_eq_true', Bool.not_eq_false', Bool.not_eq_true, Bool.not_eq_false, Option.isNone_none, Option.isNone_some, Option.isSome_none, Option.isSome_some, ne_eq, Decidable.not_not] at hb1_5
     refine WL.skip rfl rfl rfl ?_
     refine WL.skip rfl rfl rfl ?_
     refine WL.skip rfl rfl rfl ?_
     refine WL.skip rfl rfl rfl ?_
     refine WL.skip rfl rfl rfl ?_
     refine WL.val rfl rfl rfl rfl (r_pickF rfl (ev_t rfl) ev_c) ?_
     refine WL.val rfl rfl rfl rfl (r_move rfl (ev_t rfl)) ?_
     refine WL.skip rfl rfl rfl ?_
     refine WL.skip rfl rfl rfl ?_
     refine WL.skip rfl rfl rfl ?_
     refine WL.skip rfl rfl rfl ?_
     refine WL.skip rfl rfl rfl ?_
     refine WL.val rfl rfl rfl rfl (r_pickF rfl (ev_t rfl) ev_c) ?_
     refine WL.val rfl rfl rfl rfl (r_move rfl (ev_t rfl)) ?_
     refine WL.skip rfl rfl rfl ?_
     refine WL.skip rfl rfl rfl ?_
     refine WL.skip rfl rfl rfl ?_
     refine WL.skip rfl rfl rfl ?_
     refine WL.skip rfl rfl rfl ?_
     refine WL.skip rfl rfl rfl ?_
     refine WL.skip rfl rfl rfl ?_
     refine WL.val rfl rfl rfl rfl (r_pickF rfl (ev_t rfl) ev_c) ?_
     refine WL.val rfl rfl rfl rfl (r_assign rfl (ev_t rfl)) ?_
     refine WL.nil ?_
     refine WX.keep [(4, _)] ⟨rfl, trivial⟩ ?_
     refine WX.next ?_
     refine WC.ret ?_
     refine WX.retE1 rfl rfl ?_
     exact ⟨by simp, hU⟩

set_option maxHeartbeats 4000000 in
theorem Same14_ok {w : World} {F F' : Nat → Prop} {s : WSt} {lv lv' : Value} (h : Ents w F lv s.log) (h' : Ents w F' lv' s.log) :
    Ret Try.prog 9 #[.agg (stC s lv), .agg (stC s lv')] w fun u w' => u = .bool true ∧ Upd No w w' := by
  obtain ⟨V0, hV0, hr0, hc0⟩ := h
  obtain ⟨V1, hV1, hr1, hd1⟩ := h'
  have hl01 : V1.length = V0.length := by have := congrArg List.length (hV1.trans hV0.symm); simpa using this
  obtain ⟨A0, c0, rfl, hle0⟩ := hr0.slice_form
  obtain ⟨A1, c1, rfl, hle1⟩ := hr1.slice_form
  have hm0 := hr0.le
  refine enterRet (vs := [_, _]) (N := 53) Try.func9 rfl rfl rfl ?_
  have hU := Upd.refl No w
  refine WC.keep [(0, _), (1, _)] ⟨rfl, rfl, trivial⟩ ?_
  refine WC.seq ?_
  refine WC.region ?_
  refine WL.cons (SO.alloc rfl rfl rfl rfl (r_boxAgg rfl (ev_t rfl)) ?_)
  intro w1 hu1 hB1 hz1
  have hs1 := hu1.size
  replace hU := hU.transA hu1
  have h2 := hB1
  change Blk _ _ (stC s _) _ at h2
  refine WL.cons (SO.alloc rfl rfl rfl rfl (r_boxAgg rfl (ev_t rfl)) ?_)
  intro w2 hu2 hB2 hz2
  have hs2 := hu2.size
  replace hU := hU.transA hu2
  replace h2 := h2.upd hu2 (fun h => h)
  refine WL.val rfl rfl rfl rfl (r_assign rfl ev_c) ?_
  refine WL.nil ?_
  refine WX.keep [(2, _), (3, _)] ⟨rfl, rfl, trivial⟩ ?_
  have h3 := hB2
  change Blk _ _ (stC s _) _ at h3
  refine WX.next ?_
  refine WC.seq ?_
  refine WC.seq ?_
  refine WC.region ?_
  first | refine WL.val rfl rfl rfl rfl (r_field0 rfl (ev_t rfl) fld_31_0) ?_ | refine WL.val rfl rfl rfl rfl (r_fieldAt rfl (ev_t rfl) fld_31_0) ?_
  refine WL.val rfl rfl rfl rfl (r_load rfl (ev_t rfl) flat_29 (Blk.cell h2 rfl)) ?_
  first | refine WL.val rfl rfl rfl rfl (r_field0 rfl (ev_t rfl) fld_31_0) ?_ | refine WL.val rfl rfl rfl rfl (r_fieldAt rfl (ev_t rfl) fld_31_0) ?_
  refine WL.val rfl rfl rfl rfl (r_load rfl (ev_t rfl) flat_29 (Blk.cell h3 rfl)) ?_
  refine WL.val rfl rfl rfl rfl (r_neq rfl (ev_t rfl) (ev_t rfl)) ?_
  refine WL.val rfl rfl rfl rfl (r_move rfl (ev_t rfl)) ?_
  refine WL.cases 11 rfl (fun hb1_5 => ?_) (fun hb1_5 => ?_)
  · try (exfalso; first | (simp at hb1_5; done) | (simp only [decide_eq_true_eq, decide_eq_false_iff_not, Bool.not_eq_true', Bool.not_eq_false', Bool.not_eq_true, Bool.not_eq_false] at hb1_5; omega) | omega)
    all_goals
     try simp only [decide_eq_true_eq, decide_eq_false_iff_not, Bool.not_eq_true', Bool.not_eq_false', Bool.not_eq_true, Bool.not_eq_false, Option.isNone_none, Option.isNone_some, Option.isSome_none, Option.isSome_some, ne_eq, Decidable.not_not] at hb1_5
     refine WL.skip rfl rfl rfl ?_
     refine WL.skip rfl rfl rfl ?_
     refine WL.skip rfl rfl rfl ?_
     refine WL.skip rfl rfl rfl ?_
     refine WL.skip rfl rfl rfl ?_
     refine WL.val rfl rfl rfl rfl (r_pickT rfl (ev_t rfl) ev_c) ?_
     refine WL.val rfl rfl rfl rfl (r_move rfl (ev_t rfl)) ?_
     refine WL.skip rfl rfl rfl ?_
     refine WL.skip rfl rfl rfl ?_
     refine WL.skip rfl rfl rfl ?_
     refine WL.skip rfl rfl rfl ?_
     refine WL.skip rfl rfl rfl ?_
     refine WL.val rfl rfl rfl rfl (r_pickT rfl (ev_t rfl) ev_c) ?_
     refine WL.val rfl rfl rfl rfl (r_move rfl (ev_t rfl)) ?_
     refine WL.skip rfl rfl rfl ?_
     refine WL.skip rfl rfl rfl ?_
     refine WL.skip rfl rfl rfl ?_
     refine WL.skip rfl rfl rfl ?_
     refine WL.skip rfl rfl rfl ?_
     refine WL.skip rfl rfl rfl ?_
     refine WL.skip rfl rfl rfl ?_
     refine WL.val rfl rfl rfl rfl (r_pickT rfl (ev_t rfl) ev_c) ?_
     refine WL.nil ?_
     refine WX.keep [(2, _), (3, _), (33, _)] ⟨rfl, rfl, rfl, trivial⟩ ?_
     refine WX.next ?_
     refine WC.cond_true rfl (ev_t rfl) ?_
     refine WC.seq ?_
     refine WC.region ?_
     refine WL.val rfl rfl rfl rfl (r_assign rfl ev_c) ?_
     refine WL.nil ?_
     refine WX.keep [(4, _)] ⟨rfl, trivial⟩ ?_
     refine WX.next ?_
     refine WC.ret ?_
     refine WX.thenRet ?_
     refine WX.retE1 rfl rfl ?_
     exact ⟨rfl, hU⟩
  · try (exfalso; first | (simp at hb1_5; done) | (simp only [decide_eq_true_eq, decide_eq_false_iff_not, Bool.not_eq_true', Bool.not_eq_false', Bool.not_eq_true, Bool.not_eq_false] at hb1_5; omega) | omega)
    all_goals
     try simp only [decide_eq_true_eq, decide_eq_false_iff_not, Bool.not_eq_true', Bool.not_eq_false', Bool.not_eq_true, Bool.not_eq_false, Option.isNone_none, Option.isNone_some, Option.isSome_none, Option.isSome_some, ne_eq, Decidable.not_not] at hb1_5
     first | refine WL.val rfl rfl rfl rfl (r_field0 rfl (ev_t rfl) fld_31_1) ?_ | refine WL.val rfl rfl rfl rfl (r_fieldAt rfl (ev_t rfl) fld_31_1) ?_
     refine WL.val rfl rfl rfl rfl (r_load rfl (ev_t rfl) flat_3 (Blk.cell h2 rfl)) ?_
     first | refine WL.val rfl rfl rfl rfl (r_field0 rfl (ev_t rfl) fld_31_1) ?_ | refine WL.val rfl rfl rfl rfl (r_fieldAt rfl (ev_t rfl) fld_31_1) ?_
     refine WL.val rfl rfl rfl rfl (r_load rfl (ev_t rfl) flat_3 (Blk.cell h3 rfl)) ?_
     refine WL.val rfl rfl rfl rfl (r_neq rfl (ev_t rfl) (ev_t rfl)) ?_
     refine WL.val rfl rfl rfl rfl (r_pickF rfl (ev_t rfl) (ev_t rfl)) ?_
     refine WL.val rfl rfl rfl rfl (r_move rfl (ev_t rfl)) ?_
     refine WL.cases 18 rfl (fun hb1_12 => ?_) (fun hb1_12 => ?_)
     · try (exfalso; first | (simp at hb1_12; done) | (simp only [decide_eq_true_eq, decide_eq_false_iff_not, Bool.not_eq_true', Bool.not_eq_false', Bool.not_eq_true, Bool.not_eq_false] at hb1_12; omega) | omega)
       all_goals
        try simp only [decide_eq_true_eq, decide_eq_false_iff_not, Bool.not_eq_true', Bool.not_eq_false', Bool.not_eq_true, Bool.not_eq_false, Option.isNone_none, Option.isNone_some, Option.isSome_none, Option.isSome_some, ne_eq, Decidable.not_not] at hb1_12
        refine WL.skip rfl rfl rfl ?_
        refine WL.skip rfl rfl rfl ?_
        refine WL.skip rfl rfl rfl ?_
        refine WL.skip rfl rfl rfl ?_
        refine WL.skip rfl rfl rfl ?_
        refine WL.val rfl rfl rfl rfl (r_pickT rfl (ev_t rfl) ev_c) ?_
        refine WL.val rfl rfl rfl rfl (r_move rfl (ev_t rfl)) ?_
        refine WL.skip rfl rfl rfl ?_
        refine WL.skip rfl rfl rfl ?_
        refine WL.skip rfl rfl rfl ?_
        refine WL.skip rfl rfl rfl ?_
        refine WL.skip rfl rfl rfl ?_
        refine WL.skip rfl rfl rfl ?_
        refine WL.skip rfl rfl rfl ?_
        refine WL.val rfl rfl rfl rfl (r_pickT rfl (ev_t rfl) ev_c) ?_
        refine WL.nil ?_
        refine WX.keep [(2, _), (3, _), (33, _)] ⟨rfl, rfl, rfl, trivial⟩ ?_
        refine WX.next ?_
        refine WC.cond_true rfl (ev_t rfl) ?_
        refine WC.seq ?_
        refine WC.region ?_
        refine WL.val rfl rfl rfl rfl (r_assign rfl ev_c) ?_
        refine WL.nil ?_
        refine WX.keep [(4, _)] ⟨rfl, trivial⟩ ?_
        refine WX.next ?_
        refine WC.ret ?_
        refine WX.thenRet ?_
        refine WX.retE1 rfl rfl ?_
        exact ⟨rfl, hU⟩
     · try (exfalso; first | (simp at hb1_12; done) | (simp only [decide_eq_true_eq, decide_eq_false_iff_not, Bool.not_eq_true', Bool.not_eq_false', Bool.not_eq_true, Bool.not_eq_false] at hb1_12; omega) | omega)
       all_goals
        try simp only [decide_eq_true_eq, decide_eq_false_iff_not, Bool.not_eq_true', Bool.not_eq_false', Bool.not_eq_true, Bool.not_eq_false, Option.isNone_none, Option.isNone_some, Option.isSome_none, Option.isSome_some, ne_eq, Decidable.not_not] at hb1_12
        first | refine WL.val rfl rfl rfl rfl (r_field0 rfl (ev_t rfl) fld_31_2) ?_ | refine WL.val rfl rfl rfl rfl (r_fieldAt rfl (ev_t rfl) fld_31_2) ?_
        refine WL.val rfl rfl rfl rfl (r_load rfl (ev_t rfl) flat_29 (Blk.cell h2 rfl)) ?_
        first | refine WL.val rfl rfl rfl rfl (r_field0 rfl (ev_t rfl) fld_31_2) ?_ | refine WL.val rfl rfl rfl rfl (r_fieldAt rfl (ev_t rfl) fld_31_2) ?_
        refine WL.val rfl rfl rfl rfl (r_load rfl (ev_t rfl) flat_29 (Blk.cell h3 rfl)) ?_
        refine WL.val rfl rfl rfl rfl (r_neq rfl (ev_t rfl) (ev_t rfl)) ?_
        refine WL.val rfl rfl rfl rfl (r_pickF rfl (ev_t rfl) (ev_t rfl)) ?_
        refine WL.val rfl rfl rfl rfl (r_move rfl (ev_t rfl)) ?_
        refine WL.cases 25 rfl (fun hb1_19 => ?_) (fun hb1_19 => ?_)
        · try (exfalso; first | (simp at hb1_19; done) | (simp only [decide_eq_true_eq, decide_eq_false_iff_not, Bool.not_eq_true', Bool.not_eq_false', Bool.not_eq_true, Bool.not_eq_false] at hb1_19; omega) | omega)
          all_goals
           try simp only [decide_eq_true_eq, decide_eq_false_iff_not, Bool.not_eq_true', Bool.not_eq_false', Bool.not_eq_true, Bool.not_eq_false, Option.isNone_none, Option.isNone_some, Option.isSome_none, Option.isSome_some, ne_eq, Decidable.not_not] at hb1_19
           refine WL.skip rfl rfl rfl ?_
           refine WL.skip rfl rfl rfl ?_
           refine WL.skip rfl rfl rfl ?_
           refine WL.skip rfl rfl rfl ?_
           refine WL.skip rfl rfl rfl ?_
           refine WL.skip rfl rfl rfl ?_
           refine WL.skip rfl rfl rfl ?_
           refine WL.val rfl rfl rfl rfl (r_pickT rfl (ev_t rfl) ev_c) ?_
           refine WL.nil ?_
           refine WX.keep [(2, _), (3, _), (33, _)] ⟨rfl, rfl, rfl, trivial⟩ ?_
           refine WX.next ?_
           refine WC.cond_true rfl (ev_t rfl) ?_
           refine WC.seq ?_
           refine WC.region ?_
           refine WL.val rfl rfl rfl rfl (r_assign rfl ev_c) ?_
           refine WL.nil ?_
           refine WX.keep [(4, _)] ⟨rfl, trivial⟩ ?_
           refine WX.next ?_
           refine WC.ret ?_
           refine WX.thenRet ?_
           refine WX.retE1 rfl rfl ?_
           exact ⟨rfl, hU⟩
        · try (exfalso; first | (simp at hb1_19; done) | (simp only [decide_eq_true_eq, decide_eq_false_iff_not, Bool.not_eq_true', Bool.not_eq_false', Bool.not_eq_true, Bool.not_eq_false] at hb1_19; omega) | omega)
          all_goals
           try simp only [decide_eq_true_eq, decide_eq_false_iff_not, Bool.not_eq_true', Bool.not_eq_false', Bool.not_eq_true, Bool.not_eq_false, Option.isNone_none, Option.isNone_some, Option.isSome_none, Option.isSome_some, ne_eq, Decidable.not_not] at hb1_19
           first | refine WL.val rfl rfl rfl rfl (r_field0 rfl (ev_t rfl) fld_31_3) ?_ | refine WL.val rfl rfl rfl rfl (r_fieldAt rfl (ev_t rfl) fld_31_3) ?_
           refine WL.val rfl rfl rfl rfl (r_load rfl (ev_t rfl) flat_28 (Blk.cell h2 rfl)) ?_
           refine WL.val rfl rfl rfl rfl (r_lenSlice (ts := #[]) rfl (ev_t rfl) elem_28) ?_
           first | refine WL.val rfl rfl rfl rfl (r_field0 rfl (ev_t rfl) fld_31_3) ?_ | refine WL.val rfl rfl rfl rfl (r_fieldAt rfl (ev_t rfl) fld_31_3) ?_
           refine WL.val rfl rfl rfl rfl (r_load rfl (ev_t rfl) flat_28 (Blk.cell h3 rfl)) ?_
           refine WL.val rfl rfl rfl rfl (r_lenSlice (ts := #[]) rfl (ev_t rfl) elem_28) ?_
           refine WL.val rfl rfl rfl rfl (r_neq rfl (ev_t rfl) (ev_t rfl)) ?_
           refine WL.val rfl rfl rfl rfl (r_pickF rfl (ev_t rfl) (ev_t rfl)) ?_
           refine WL.nil ?_
           refine WX.keep [(2, _), (3, _), (33, _)] ⟨rfl, rfl, rfl, trivial⟩ ?_
           refine WX.next ?_
           refine WC.cond rfl (ev_t rfl) (fun hc1 => ?_) (fun hc1 => ?_)
           · try simp only [decide_eq_true_eq, decide_eq_false_iff_not, Bool.not_eq_true', Bool.not_eq_false', Bool.not_eq_true, Bool.not_eq_false, Option.isNone_none, Option.isNone_some, Option.isSome_none, Option.isSome_some, ne_eq, Decidable.not_not] at hc1
             exfalso
             simp_all
           · try (exfalso; first | (simp at hc1; done) | (simp only [decide_eq_true_eq, decide_eq_false_iff_not, Bool.not_eq_true', Bool.not_eq_false', Bool.not_eq_true, Bool.not_eq_false] at hc1; omega) | omega)
             all_goals
              try simp only [decide_eq_true_eq, decide_eq_false_iff_not, Bool.not_eq_true', Bool.not_eq_false', Bool.not_eq_true, Bool.not_eq_false, Option.isNone_none, Option.isNone_some, Option.isSome_none, Option.isSome_some, ne_eq, Decidable.not_not] at hc1
              refine WC.skip ?_
              refine WX.next ?_
              refine WC.seq ?_
              refine WC.seq ?_
              refine WC.region ?_
              refine WL.val rfl rfl rfl rfl (r_assign rfl ev_c) ?_
              refine WL.nil ?_
              refine WX.keep [(2, _), (3, _), (5, _)] ⟨rfl, rfl, rfl, trivial⟩ ?_
              obtain ⟨b2, hb2⟩ : ∃ q, w.heap.size = q := ⟨_, rfl⟩
              obtain ⟨b3, hb3⟩ : ∃ q, w1.heap.size = q := ⟨_, rfl⟩
              rw [hb2] at h2 ⊢
              rw [hb3] at h3 ⊢
              refine WX.next ?_
              refine WC.block ?_
              -- loop 1: live [2, 3, 5]
              refine WC.keep [(2, _), (3, _), (5, _)] ⟨rfl, rfl, rfl, trivial⟩ ?_
              refine WC.loop (fun qq E wC => ∃ j : Nat, j ≤ V0.length ∧ qq = V0.length - j ∧ Upd No w wC ∧ Blk wC b2 (stC s (.slice A0 V0.length c0)) 31 ∧ Blk wC b3 (stC s (.slice A1 V1.length c1)) 31 ∧ E = [(2, .pointer (some ⟨b2, 0, none⟩)), (3, .pointer (some ⟨b3, 0, none⟩)), (5, .int .i64 (j : Int))]) (V0.length) ?_ ?_
              · exact ⟨0, by omega, by omega, hU, h2, h3, rfl⟩
              · clear hU h2 h3
                rintro qq E wC ⟨j, hj, rfl, hU, h2, h3, rfl⟩
                refine WC.seq ?_
                refine WC.seq ?_
                refine WC.region ?_
                refine WL.val rfl rfl rfl rfl (r_move rfl (ev_t rfl)) ?_
                first | refine WL.val rfl rfl rfl rfl (r_field0 rfl (ev_t rfl) fld_31_3) ?_ | refine WL.val rfl rfl rfl rfl (r_fieldAt rfl (ev_t rfl) fld_31_3) ?_
                refine WL.val rfl rfl rfl rfl (r_load rfl (ev_t rfl) flat_28 (Blk.cell h2 rfl)) ?_
                refine WL.val rfl rfl rfl rfl (r_lenSlice (ts := #[]) rfl (ev_t rfl) elem_28) ?_
                refine WL.val rfl rfl rfl rfl (r_lss rfl (ev_t rfl) (ev_t rfl)) ?_
                refine WL.nil ?_
                refine WX.keep [(2, _), (3, _), (5, _), (38, _)] ⟨rfl, rfl, rfl, rfl, trivial⟩ ?_
                refine WX.next ?_
                refine WC.cond rfl (ev_t rfl) (fun hc4 => ?_) (fun hc4 => ?_)
                · try (exfalso; first | (simp at hc4; done) | (simp only [decide_eq_true_eq, decide_eq_false_iff_not, Bool.not_eq_true', Bool.not_eq_false', Bool.not_eq_true, Bool.not_eq_false] at hc4; omega) | omega)
                  all_goals
                   try simp only [decide_eq_true_eq, decide_eq_false_iff_not, Bool.not_eq_true', Bool.not_eq_false', Bool.not_eq_true, Bool.not_eq_false, Option.isNone_none, Option.isNone_some, Option.isSome_none, Option.isSome_some, ne_eq, Decidable.not_not] at hc4
                   have hjl : j < V0.length := by omega
                   have hgj : V0[j]? = some V0[j] := List.getElem?_eq_getElem hjl
                   have hgk : V1[j]? = some (V1[j]'(by omega)) := List.getElem?_eq_getElem (by omega)
                   have hmj : V0[j] ∈ V0 := List.getElem_mem hjl
                   have hmk : V1[j]'(by omega) ∈ V1 := List.getElem_mem (by omega)
                   generalize V0[j] = r at hgj hmj
                   generalize V1[j]'(by omega) = r' at hgk hmk
                   obtain ⟨rx, rv⟩ := r
                   obtain ⟨rx', rv'⟩ := r'
                   have hxx : rx = rx' := by
                     have e1 : (V0.map EnV.x)[j]? = some rx := by rw [List.getElem?_map, hgj]; rfl
                     have e2 : (V1.map EnV.x)[j]? = some rx' := by rw [List.getElem?_map, hgk]; rfl
                     rw [hV0] at e1
                     rw [hV1, e1] at e2
                     injection e2
                   subst hxx
                   obtain ⟨b0, off, rfl, _⟩ := hr0.open (by omega)
                   obtain ⟨b1, off1, rfl, _⟩ := hr1.open (by omega)
                   have hcd := hc0 _ hmj
                   have hce := hd1 _ hmk
                   refine WC.skip ?_
                   refine WX.next ?_
                   refine WC.seq ?_
                   refine WC.block ?_
                   refine WC.seq ?_
                   refine WC.draws' (fun u0_ u1_ => Upd No u0_ u1_) (fun j => [0, 0, 0, 0, 0, 0, 1, 0, 0, 1, 2, 0].getD j 0) (.calm 0 (.calm 2 (.calm 5 (.calm 7 (.held 1 (.calm 3 (.held 4 (.one 6 (.calm 8 (.one 9 (.one 10 (.calm 11 (.done))))))))))))) mixed (by kernel_rfl) (by repeat (first | with_reducible exact Deaf.body | with_reducible apply Deaf.then | with_reducible apply Deaf.block)) ?_
                   intro w3 hu3
                   have hz3 := congrArg Array.size hu3.2.2.2
                   replace hu3 := Upd.of_draw hu3
                   have hs3 := hu3.size
                   replace hU := hU.transA hu3
                   replace h2 := h2.upd hu3 (fun h => h)
                   replace h3 := h3.upd hu3 (fun h => h)
                   have hS6 := Upd.refl No w3
                   first | refine WN.calm _ rfl rfl rfl rfl rfl (fun _ => r_field0 rfl (ev_t rfl) fld_31_3) ?_ | refine WN.calm _ rfl rfl rfl rfl rfl (fun _ => r_fieldAt rfl (ev_t rfl) fld_31_3) ?_
                   refine WN.calm _ rfl rfl rfl rfl rfl (fun _ => r_move rfl (ev_t rfl)) ?_
                   first | refine WN.calm _ rfl rfl rfl rfl rfl (fun _ => r_field0 rfl (ev_t rfl) fld_31_3) ?_ | refine WN.calm _ rfl rfl rfl rfl rfl (fun _ => r_fieldAt rfl (ev_t rfl) fld_31_3) ?_
                   refine WN.calm _ rfl rfl rfl rfl rfl (fun _ => r_move rfl (ev_t rfl)) ?_
                   refine WN.held _ rfl rfl rfl rfl rfl hS6 (fun w' hS => r_load rfl (ev_t rfl) flat_28 (Blk.cell (h2.upd hS (fun h => h)) rfl)) ?_
                   refine WN.calm _ rfl rfl rfl rfl rfl (fun _ => r_indexAddr rfl (ev_t rfl) (ev_t rfl) elem_28 size_33 (by omega) (by omega)) ?_
                   refine WN.held _ rfl rfl rfl rfl rfl hS6 (fun w' hS => r_loadAgg (vs := [_, _, _, _]) rfl (ev_t rfl) agg_33 size_33 (Rd.cellsL (us := EnV.cells ⟨rx, _⟩) ((hr0.upd hU (fun _ _ _ h => h)).upd hS (fun _ _ _ h => h)) (i := j * 4) (by omega) (fun q v hv => EnV.flat_get hgj hv))) ?_
                   refine WN.step _ rfl (SO.val rfl rfl rfl rfl (r_load rfl (ev_t rfl) flat_28 (Blk.cell h3 rfl)) ?_)
                   refine ⟨hS6, ?_⟩
                   refine WN.calm _ rfl rfl rfl rfl rfl (fun _ => r_indexAddr rfl (ev_t rfl) (ev_t rfl) elem_28 size_33 (by omega) (by omega)) ?_
                   refine WN.step _ rfl (SO.val rfl rfl rfl rfl (r_loadAgg (vs := [_, _, _, _]) rfl (ev_t rfl) agg_33 size_33 (Rd.cellsL (us := EnV.cells ⟨rx, _⟩) (hr1.upd hU (fun _ _ _ h => h)) (i := j * 4) (by omega) (fun q v hv => EnV.flat_get hgk hv))) ?_)
                   refine ⟨hS6, ?_⟩
                   refine WN.step _ rfl (SO.call (SameEntry_ok (hcd.upd hU (fun _ _ _ h => h)) (hce.upd hU (fun _ _ _ h => h))) rfl body_21 ⟨(ev_t rfl), (ev_t rfl), trivial⟩ rfl rfl rfl rfl ?_)
                   rintro v9 w4 ⟨rfl, hu4⟩
                   have hs4 := hu4.size
                   try replace hS6 := Upd.transA hS6 hu4
                   replace hU := hU.transA hu4
                   replace h2 := h2.upd hu4 (fun h => h)
                   replace h3 := h3.upd hu4 (fun h => h)
                   refine ⟨trivial, ?_⟩
                   refine WN.calm _ rfl rfl rfl rfl rfl (fun _ => r_not rfl (ev_t rfl)) ?_
                   refine WN.done ?_
                   refine WX.keep [(2, _), (3, _), (5, _), (52, _)] ⟨rfl, rfl, rfl, rfl, trivial⟩ ?_
                   refine WX.next ?_
                   refine WC.cond rfl (ev_t rfl) (fun hc6 => ?_) (fun hc6 => ?_)
                   · try (exfalso; first | (simp at hc6; done) | (simp only [decide_eq_true_eq, decide_eq_false_iff_not, Bool.not_eq_true', Bool.not_eq_false', Bool.not_eq_true, Bool.not_eq_false] at hc6; omega) | omega)
                     all_goals
                      try simp only [decide_eq_true_eq, decide_eq_false_iff_not, Bool.not_eq_true', Bool.not_eq_false', Bool.not_eq_true, Bool.not_eq_false, Option.isNone_none, Option.isNone_some, Option.isSome_none, Option.isSome_some, ne_eq, Decidable.not_not] at hc6
                      refine WC.seq ?_
                      refine WC.region ?_
                      refine WL.val rfl rfl rfl rfl (r_assign rfl ev_c) ?_
                      refine WL.nil ?_
                      refine WX.keep [(4, _)] ⟨rfl, trivial⟩ ?_
                      refine WX.next ?_
                      refine WC.ret ?_
                      refine WX.blockRet ?_
                      refine WX.thenRet ?_
                      refine WX.thenRet ?_
                      refine WX.blockRet ?_
                      refine WX.thenRet ?_
                      refine WX.retE1 rfl rfl ?_
                      exact ⟨rfl, hU⟩
                   · try (exfalso; first | (simp at hc6; done) | (simp only [decide_eq_true_eq, decide_eq_false_iff_not, Bool.not_eq_true', Bool.not_eq_false', Bool.not_eq_true, Bool.not_eq_false] at hc6; omega) | omega)
                     all_goals
                      try simp only [decide_eq_true_eq, decide_eq_false_iff_not, Bool.not_eq_true', Bool.not_eq_false', Bool.not_eq_true, Bool.not_eq_false, Option.isNone_none, Option.isNone_some, Option.isSome_none, Option.isSome_some, ne_eq, Decidable.not_not] at hc6
                      refine WC.skip ?_
                      refine WX.blockNormal ?_
                      refine WX.next ?_
                      refine WC.region ?_
                      refine WL.val rfl rfl rfl rfl (r_move rfl (ev_t rfl)) ?_
                      first | refine WL.val rfl rfl rfl rfl (r_addN rfl (ev_t rfl) ev_c (by simp only [inK]; omega)) ?_ | refine WL.val rfl rfl rfl rfl (r_add rfl (ev_t rfl) ev_c) ?_
                      refine WL.val rfl rfl rfl rfl (r_assign rfl (ev_t rfl)) ?_
                      refine WL.nil ?_
                      refine WX.keep [(2, _), (3, _), (5, _)] ⟨rfl, rfl, rfl, trivial⟩ ?_
                      refine WX.meet [(2, _), (3, _), (5, _)] ⟨rfl, rfl, rfl, trivial⟩ ?_
                      exact ⟨V0.length - (j + 1), by omega, j + 1, by omega, rfl, hU, h2, h3, rfl⟩
                · try (exfalso; first | (simp at hc4; done) | (simp only [decide_eq_true_eq, decide_eq_false_iff_not, Bool.not_eq_true', Bool.not_eq_false', Bool.not_eq_true, Bool.not_eq_false] at hc4; omega) | omega)
                  all_goals
                   try simp only [decide_eq_true_eq, decide_eq_false_iff_not, Bool.not_eq_true', Bool.not_eq_false', Bool.not_eq_true, Bool.not_eq_false, Option.isNone_none, Option.isNone_some, Option.isSome_none, Option.isSome_some, ne_eq, Decidable.not_not] at hc4
                   refine WC.exit ?_
                   refine WX.thenExit ?_
                   refine WX.thenExit ?_
                   refine WX.blockHere ?_
                   refine WX.next ?_
                   refine WC.seq ?_
                   refine WC.region ?_
                   refine WL.val rfl rfl rfl rfl (r_assign rfl ev_c) ?_
                   refine WL.nil ?_
                   refine WX.keep [(4, _)] ⟨rfl, trivial⟩ ?_
                   refine WX.next ?_
                   refine WC.ret ?_
                   refine WX.retE1 rfl rfl ?_
                   exact ⟨rfl, hU⟩

set_option maxHeartbeats 2000000 in
theorem state_ok {w : World} {F : Nat → Prop} {p d : Nat} {D : DS} {a side : Int} {turn : Nat} {s : WSt} (hW : IsWal w F p d D a side turn s) (hl : s.log.length ≤ 1000) (hcl : ∀ x ∈ s.log, x.cell.length ≤ 100000) :
    Ret Try.prog 10 #[.pointer (some ⟨p, 0, none⟩)] w fun u w' => ∃ lv', u = .agg (stC s lv') ∧ DEnts w' (New w w') lv' s.log ∧ Upd No w w' := by
  obtain ⟨R, G, lv, hB, hD, hE, hFp, hR, hG⟩ := hW
  refine enterRet (vs := [_]) (N := 15) Try.func10 rfl rfl rfl ?_
  have hU := Upd.refl No w
  refine WC.keep [(0, _)] ⟨rfl, trivial⟩ ?_
  refine WC.seq ?_
  refine WC.region ?_
  refine WL.cons (SO.alloc rfl rfl rfl rfl (r_alloc rfl zero_31) ?_)
  intro w1 hu1 hB1 hz1
  have hs1 := hu1.size
  replace hU := hU.trans hu1 (by first | exact (fun _ _ h => h) | exact (fun _ _ h => h.elim) | (intro k hl hk; (try simp only [At, New, Grow, From, No] at hk ⊢); omega) | (intro k hl hk; simp only [At, No] at *; omega))
  refine WL.nil ?_
  refine WX.keep [(0, _), (2, _)] ⟨rfl, rfl, trivial⟩ ?_
  have h2 := hB1
  refine WX.next ?_
  refine WC.seq ?_
  refine WC.region ?_
  refine WL.val rfl rfl rfl rfl (r_move rfl (ev_t rfl)) ?_
  refine WL.cons (SO.call (WState_ok (hB.upd hU (fun h => h)) (hE.upd hU (fun _ _ _ h => h)) hl hcl) rfl body_8 ⟨(ev_t rfl), trivial⟩ rfl rfl rfl rfl ?_)
  rintro v9 w2 ⟨lv', rfl, hDE, hu2⟩
  obtain ⟨Al, cl, rfl, hcl9⟩ := hDE.form
  have hDE := hDE.mono (F' := fun k => w.heap.size < k ∧ k < w2.heap.size) (fun k hk hl => by simp only [New] at *; omega)
  have hs2 := hu2.size
  replace hU := hU.trans hu2 (by first | exact (fun _ _ h => h) | exact (fun _ _ h => h.elim) | (intro k hl hk; (try simp only [At, New, Grow, From, No] at hk ⊢); omega) | (intro k hl hk; simp only [At, No] at *; omega))
  replace h2 := h2.upd hu2 (by first | exact (fun h => h) | (simp only [At]; omega))
  refine WL.cons (SO.alloc rfl rfl rfl rfl (r_alloc rfl zero_36) ?_)
  intro w3 hu3 hB3 hz3
  have hs3 := hu3.size
  replace hU := hU.trans hu3 (by first | exact (fun _ _ h => h) | exact (fun _ _ h => h.elim) | (intro k hl hk; (try simp only [At, New, Grow, From, No] at hk ⊢); omega) | (intro k hl hk; simp only [At, No] at *; omega))
  replace h2 := h2.upd hu3 (by first | exact (fun h => h) | (simp only [At]; omega))
  replace hDE := hDE.upd hu3 (by first | exact (fun _ _ _ h => h) | (intro k hk hl hS; simp only [At, New] at hk hS; omega))
  refine WL.cons (SO.storeAll (us := [_, _, _, _]) rfl (ev_t rfl) (ev_t rfl) size_36 hB3 rfl rfl rfl rfl rfl ?_)
  intro w4 hu4 hB3 hz4
  have hs4 := hu4.size
  replace hU := hU.trans hu4 (by first | exact (fun _ _ h => h) | exact (fun _ _ h => h.elim) | (intro k hl hk; (try simp only [At, New, Grow, From, No] at hk ⊢); omega) | (intro k hl hk; simp only [At, No] at *; omega))
  replace h2 := h2.upd hu4 (by first | exact (fun h => h) | (simp only [At]; omega))
  replace hDE := hDE.upd hu4 (by first | exact (fun _ _ _ h => h) | (intro k hk hl hS; simp only [At, New] at hk hS; omega))
  refine WL.nil ?_
  refine WX.keep [(2, _), (3, _)] ⟨rfl, rfl, trivial⟩ ?_
  have h3 := hB3
  change Blk _ _ (stC s _) _ at h3
  refine WX.next ?_
  refine WC.seq ?_
  refine WC.region ?_
  first | refine WL.val rfl rfl rfl rfl (r_field0 rfl (ev_t rfl) fld_36_0) ?_ | refine WL.val rfl rfl rfl rfl (r_fieldAt rfl (ev_t rfl) fld_36_0) ?_
  refine WL.val rfl rfl rfl rfl (r_load rfl (ev_t rfl) flat_29 (Blk.cell h3 rfl)) ?_
  first | refine WL.val rfl rfl rfl rfl (r_field0 rfl (ev_t rfl) fld_36_1) ?_ | refine WL.val rfl rfl rfl rfl (r_fieldAt rfl (ev_t rfl) fld_36_1) ?_
  refine WL.val rfl rfl rfl rfl (r_load rfl (ev_t rfl) flat_3 (Blk.cell h3 rfl)) ?_
  first | refine WL.val rfl rfl rfl rfl (r_field0 rfl (ev_t rfl) fld_36_2) ?_ | refine WL.val rfl rfl rfl rfl (r_fieldAt rfl (ev_t rfl) fld_36_2) ?_
  refine WL.val rfl rfl rfl rfl (r_load rfl (ev_t rfl) flat_29 (Blk.cell h3 rfl)) ?_
  first | refine WL.val rfl rfl rfl rfl (r_field0 rfl (ev_t rfl) fld_36_3) ?_ | refine WL.val rfl rfl rfl rfl (r_fieldAt rfl (ev_t rfl) fld_36_3) ?_
  refine WL.val rfl rfl rfl rfl (r_load rfl (ev_t rfl) flat_28 (Blk.cell h3 rfl)) ?_
  refine WL.val rfl rfl rfl rfl (r_build (cs := #[_, _, _, _]) (vs := [(0, _), (1, _), (2, _), (3, _)]) rfl ⟨⟨rfl, (ev_t rfl)⟩, ⟨rfl, (ev_t rfl)⟩, ⟨rfl, (ev_t rfl)⟩, ⟨rfl, (ev_t rfl)⟩, trivial⟩ plc_31 zero_31 rfl) ?_
  refine WL.cons (SO.storeAll (us := [_, _, _, _]) rfl (ev_t rfl) (ev_t rfl) size_31 h2 rfl rfl rfl rfl rfl ?_)
  intro w5 hu5 h2 hz5
  have hs5 := hu5.size
  replace hU := hU.trans hu5 (by first | exact (fun _ _ h => h) | exact (fun _ _ h => h.elim) | (intro k hl hk; (try simp only [At, New, Grow, From, No] at hk ⊢); omega) | (intro k hl hk; simp only [At, No] at *; omega))
  replace hDE := hDE.upd hu5 (by first | exact (fun _ _ _ h => h) | (intro k hk hl hS; simp only [At, New] at hk hS; omega))
  replace h3 := h3.updA hu5
  refine WL.nil ?_
  refine WX.keep [(2, _)] ⟨rfl, trivial⟩ ?_
  refine WX.next ?_
  refine WC.ret ?_
  refine WX.retC (vs := [_, _, _, _]) rfl rfl agg_31 size_31 (Blk.cellsL h2) ?_
  exact ⟨_, rfl, hDE.mono fun k hk hl => by simp only [New] at *; omega, hU⟩

theorem open14_ok {w : World} {m : Nat} (hm : 102 ≤ m ∧ m ≤ 1048576) :
    Ret Try.prog 6 #[.int .i64 (m : Int)] w fun u w' => ∃ d p D, u = .tuple #[.pointer (some ⟨d, 0, none⟩), .pointer (some ⟨p, 0, none⟩)] ∧ IsWal w' (New w w') p d D 1 1 1 st0 ∧ QD D 3 m (putA (fun _ => []) 2 (allB 0 (-1) 0 1)) ∧ Upd No w w' := by
  refine enterRet (vs := [_]) (N := 23) Try.func6 rfl rfl rfl ?_
  have hU := Upd.refl No w
  refine WC.keep [(0, _)] ⟨rfl, trivial⟩ ?_
  refine WC.seq ?_
  refine WC.region ?_
  refine WL.val rfl rfl rfl rfl (r_assign rfl ev_c) ?_
  refine WL.val rfl rfl rfl rfl (r_assign rfl ev_c) ?_
  refine WL.nil ?_
  refine WX.keep [(0, _)] ⟨rfl, trivial⟩ ?_
  refine WX.next ?_
  refine WC.seq ?_
  refine WC.region ?_
  refine WL.val rfl rfl rfl rfl (r_move rfl (ev_t rfl)) ?_
  refine WL.cons (SO.call (Dnew_ok (n := 3) (most := (m : Int)) (by omega) (by omega)) rfl body_15 ⟨ev_c, (ev_t rfl), trivial⟩ rfl rfl rfl rfl ?_)
  rintro v9 w1 ⟨d, rfl, hD, hu1⟩
  have hs1 := hu1.size
  replace hU := hU.trans hu1 (by first | exact (fun _ _ h => h) | exact (fun _ _ h => h.elim) | (intro k hl hk; (try simp only [At, New, Grow, From, No] at hk ⊢); omega) | (intro k hl hk; simp only [At, No, New] at *; omega))
  refine WL.val rfl rfl rfl rfl (r_move rfl (ev_t rfl)) ?_
  refine WL.val rfl rfl rfl rfl (r_extract rfl (ev_t rfl) rfl) ?_
  refine WL.val rfl rfl rfl rfl (r_extract rfl (ev_t rfl) rfl) ?_
  refine WL.val rfl rfl rfl rfl (r_assign rfl (ev_t rfl)) ?_
  refine WL.val rfl rfl rfl rfl (r_assign rfl (ev_t rfl)) ?_
  refine WL.nil ?_
  refine WX.keep [(4, _)] ⟨rfl, trivial⟩ ?_
  refine WX.next ?_
  refine WC.seq ?_
  refine WC.region ?_
  refine WL.val rfl rfl rfl rfl (r_move rfl (ev_t rfl)) ?_
  refine WL.cons (SO.call (Open_ok (a := 1) (n := 0) (A := fun _ => 0) (S := fun _ => st0) (N := fun _ => 0) hD (QD.new 3 m) (by omega) (by omega) hm.1 rfl rfl rfl rfl (fun j hj => by omega) rfl (by simp) (.inl rfl)) rfl body_14 ⟨(ev_t rfl), ev_c, trivial⟩ rfl rfl rfl rfl ?_)
  rintro v9 w2 ⟨p, turn, s, D', T', rfl, hW, hQ, hu2, hp, hc⟩
  obtain ⟨_, rfl, rfl, rfl⟩ : (0 = 0) ∧ turn = 1 ∧ s = st0 ∧ T' = putA (fun _ => []) (1 + 1) (allB 0 (-1) 0 1) := by
    rcases hc with h | h
    · exact h
    · exact absurd h.1 (by simp)
  have hszz := hU.size
  have hs2 := hu2.size
  replace hU := hU.trans hu2 (by first | exact (fun _ _ h => h) | exact (fun _ _ h => h.elim) | (intro k hl hk; (try simp only [At, New, Grow, From, No] at hk ⊢); omega) | (intro k hl hk; simp only [At, No, New] at *; omega))
  refine WL.val rfl rfl rfl rfl (r_move rfl (ev_t rfl)) ?_
  refine WL.val rfl rfl rfl rfl (r_extract rfl (ev_t rfl) rfl) ?_
  refine WL.val rfl rfl rfl rfl (r_extract rfl (ev_t rfl) rfl) ?_
  refine WL.val rfl rfl rfl rfl (r_assign rfl (ev_t rfl)) ?_
  refine WL.val rfl rfl rfl rfl (r_assign rfl (ev_t rfl)) ?_
  refine WL.nil ?_
  refine WX.keep [(4, _), (6, _), (7, _)] ⟨rfl, rfl, rfl, trivial⟩ ?_
  refine WX.next ?_
  refine WC.seq ?_
  refine WC.seq ?_
  refine WC.region ?_
  refine WL.val rfl rfl rfl rfl (r_move rfl (ev_t rfl)) ?_
  refine WL.val rfl rfl rfl rfl (r_neq rfl (ev_t rfl) ev_c) ?_
  refine WL.nil ?_
  refine WX.keep [(4, _), (6, _), (19, _)] ⟨rfl, rfl, rfl, trivial⟩ ?_
  refine WX.next ?_
  refine WC.cond rfl (ev_t rfl) (fun hc3 => ?_) (fun hc3 => ?_)
  · try (exfalso; first | (simp at hc3; done) | (simp only [decide_eq_true_eq, decide_eq_false_iff_not, Bool.not_eq_true', Bool.not_eq_false', Bool.not_eq_true, Bool.not_eq_false] at hc3; omega) | omega)
    all_goals
     try simp only [decide_eq_true_eq, decide_eq_false_iff_not, Bool.not_eq_true', Bool.not_eq_false', Bool.not_eq_true, Bool.not_eq_false, Option.isNone_none, Option.isNone_some, Option.isSome_none, Option.isSome_some, ne_eq, Decidable.not_not] at hc3
     refine WC.seq ?_
     refine WC.region ?_
     refine WL.val rfl rfl rfl rfl (r_move rfl (ev_t rfl)) ?_
     refine WL.val rfl rfl rfl rfl (r_assign rfl (ev_t rfl)) ?_
     refine WL.val rfl rfl rfl rfl (r_assign rfl ev_c) ?_
     refine WL.nil ?_
     refine WX.keep [(2, _), (3, _)] ⟨rfl, rfl, trivial⟩ ?_
     refine WX.next ?_
     refine WC.ret ?_
     refine WX.thenRet ?_
     refine WX.retE2 rfl rfl rfl ?_
     exact ⟨_, _, _, rfl, hW.mono fun k hk hl => by simp only [Grow, New] at *; omega, hQ, hU⟩
  · try (exfalso; first | (simp at hc3; done) | (simp only [decide_eq_true_eq, decide_eq_false_iff_not, Bool.not_eq_true', Bool.not_eq_false', Bool.not_eq_true, Bool.not_eq_false] at hc3; omega) | omega)
    all_goals
     try simp only [decide_eq_true_eq, decide_eq_false_iff_not, Bool.not_eq_true', Bool.not_eq_false', Bool.not_eq_true, Bool.not_eq_false, Option.isNone_none, Option.isNone_some, Option.isSome_none, Option.isSome_some, ne_eq, Decidable.not_not] at hc3
     refine WC.skip ?_
     refine WX.next ?_
     refine WC.seq ?_
     refine WC.region ?_
     refine WL.val rfl rfl rfl rfl (r_move rfl (ev_t rfl)) ?_
     refine WL.val rfl rfl rfl rfl (r_move rfl (ev_t rfl)) ?_
     refine WL.val rfl rfl rfl rfl (r_assign rfl (ev_t rfl)) ?_
     refine WL.val rfl rfl rfl rfl (r_assign rfl (ev_t rfl)) ?_
     refine WL.nil ?_
     refine WX.keep [(2, _), (3, _)] ⟨rfl, rfl, trivial⟩ ?_
     refine WX.next ?_
     refine WC.ret ?_
     refine WX.retE2 rfl rfl rfl ?_
     exact ⟨_, _, _, rfl, hW.mono fun k hk hl => by simp only [Grow, New] at *; omega, hQ, hU⟩
end Go.Proofs.Ytnjfhmlfpfkllaa

/-
  A slice written out: two elements of four cells.
-/
namespace Go.Proofs.Ytnjfhmlfpfkllaa
open Go
set_option linter.unusedSimpArgs false
set_option linter.unusedVariables false

theorem fill_44 {c : Array Value} (hc : c.size = 8) (a0 a1 a2 a3 b0 b1 b2 b3 : Value) :
    Instr.fill (fun i => some (i * 4, 4)) c [(0, .agg #[a0, a1, a2, a3]), (1, .agg #[b0, b1, b2, b3])] = some #[a0, a1, a2, a3, b0, b1, b2, b3] := by
  have e : ∀ (d : Array Value) (u0 u1 u2 u3 : Value) (k : Nat), (#[u0, u1, u2, u3].zipIdx.foldl (fun cs (x : Value × Nat) => cs.setIfInBounds (k + x.2) x.1) d) = (((d.setIfInBounds (k + 0) u0).setIfInBounds (k + 1) u1).setIfInBounds (k + 2) u2).setIfInBounds (k + 3) u3 := fun d u0 u1 u2 u3 k => rfl
  obtain ⟨l⟩ := c
  match l, hc with
  | [c0, c1, c2, c3, c4, c5, c6, c7], _ =>
    have hA : ∀ u0 u1 u2 u3 : Value, (Value.agg #[u0, u1, u2, u3]).cells = #[u0, u1, u2, u3] := fun _ _ _ _ => by simp [Value.cells]
    simp [Instr.fill, hA]

section
variable {P : Program} {E : Env} {o : Oper} {w : World}
theorem r_buildSlice44 {t e : TypeId} {by_ : Nat} {z : Value} {x y : Operand} {a0 a1 a2 a3 b0 b1 b2 b3 : Value} (ho : o.op = .buildSlice t 2 #[(0, x), (1, y)]) (hx : Env.ev E x = .agg #[a0, a1, a2, a3]) (hy : Env.ev E y = .agg #[b0, b1, b2, b3]) (hr : RowT P t e 4 by_ z) :
    (execOp (Env.ev E) o).run P w = .ok (.value (.slice (some ⟨w.heap.size, 0, none⟩) 2 2)) (w.alloc (.cells #[a0, a1, a2, a3, b0, b1, b2, b3] e)) := by
  refine r_buildSlice (vs := [(0, .agg #[a0, a1, a2, a3]), (1, .agg #[b0, b1, b2, b3])]) ho ⟨⟨rfl, hx⟩, ⟨rfl, hy⟩, trivial⟩ hr rfl ?_
  refine fill_44 ?_ _ _ _ _ _ _ _ _
  simp [rowCells, hr.cells]
end
end Go.Proofs.Ytnjfhmlfpfkllaa

/-
  Law 14: the document's example.
-/
namespace Go.Proofs.Ytnjfhmlfpfkllaa
open Go
set_option linter.unusedSimpArgs false
set_option linter.unusedVariables false

theorem entB_lenC {c : Nat} (hc : c ≤ 4000) : ∀ (l : List En) (i : Nat), i + l.length < 18446744073709551616 → (∀ x ∈ l, x.ok ∧ x.cell.length ≤ c) → (entB i l).length ≤ l.length * (c + 70)
  | [], i, _, _ => by simp [entB]
  | x :: l, i, hi, h => by
    have h1 := h x (by simp)
    rw [List.length_cons] at hi
    have h2 := entB_lenC hc l (i + 1) (by omega) (fun y hy => h y (by simp [hy]))
    have e0 := encU_len9w (n := i) (by omega)
    have e1 := encU_len9w h1.1.t
    have e2 := encU_len9w h1.1.s
    have e3 := encU_len9w h1.1.n
    have e4 := encU_len9w (n := x.cell.length) (by omega)
    have h3 := recB_len (kind := 2) (pl := En.pl i x) (m := 45 + c) (by decide) (by simp only [En.pl, List.length_append]; omega) (by omega)
    rw [entB, List.length_append, List.length_cons, Nat.add_mul, Nat.one_mul]
    omega

def xA : En := ⟨1, 1, 1, [120]⟩
def zA : En := ⟨2, 2, 1, [122]⟩
theorem xA_ok : xA.ok ∧ xA.cell.length ≤ 1 := ⟨⟨by decide, by decide, by decide, by decide⟩, by decide⟩
theorem zA_ok : zA.ok ∧ zA.cell.length ≤ 1 := ⟨⟨by decide, by decide, by decide, by decide⟩, by decide⟩
theorem roomA1 : ((putA (fun _ => []) 2 (allB 0 (-1) 0 1)) 2).length + (recVo 1 0 ++ entB 1 [xA, xA]).length ≤ 500 := by
  rw [putA_same, List.length_append]
  have h1 := allB_len (t := 0) (v := -1) (b := 0) (n := 1) (by decide) (by simp only [inK]; omega) (by decide) (by decide)
  have h2 := recVo_len (t := 1) (v := 0) (by decide) (by simp only [inK]; omega)
  have h3 := entB_lenC (c := 1) (by omega) [xA, xA] 1 (by decide) (fun x hx => by simp only [List.mem_cons, List.not_mem_nil, or_false, or_self] at hx; subst hx; exact xA_ok)
  simp only [List.length_cons, List.length_nil] at h3
  omega
theorem roomA2 {T : Nat → List UInt8} (h : (T 2).length ≤ 500) : (T 2).length + (recVo 2 (-1) ++ entB 2 [zA]).length ≤ 2000 := by
  rw [List.length_append]
  have h2 := recVo_len (t := 2) (v := -1) (by decide) (by simp only [inK]; omega)
  have h3 := entB_lenC (c := 1) (by omega) [zA] 2 (by decide) (fun x hx => by simp only [List.mem_cons, List.not_mem_nil, or_false, or_self] at hx; subst hx; exact zA_ok)
  simp only [List.length_cons, List.length_nil] at h3
  omega

set_option maxHeartbeats 4000000 in
theorem awake14_ok (w : World) : Ret Try.prog 5 #[] w fun v w' => v = .bool true ∧ Upd No w w' := by
  refine enterRet (vs := []) (N := 45) Try.func5 rfl rfl rfl ?_
  have hU := Upd.refl No w
  refine WC.keep [] trivial ?_
  refine WC.seq ?_
  refine WC.region ?_
  refine WL.val rfl rfl rfl rfl (r_assign rfl ev_c) ?_
  refine WL.nil ?_
  refine WX.keep [] trivial ?_
  refine WX.next ?_
  refine WC.seq ?_
  refine WC.region ?_
  refine WL.cons (SO.call (open14_ok (m := 2000) (by omega)) rfl body_6 ⟨ev_c, trivial⟩ rfl rfl rfl rfl ?_)
  rintro v9 w1 ⟨d, p, D, rfl, hW, hQ, hu1⟩
  have hs1 := hu1.size
  have hFW : ∀ k, New w w1 k → w.heap.size ≤ k ∧ k < w1.heap.size := fun k hk => hk
  generalize New w w1 = FW at hW hFW
  have hs1 := hu1.size
  replace hU := hU.trans hu1 (by first | exact (fun _ _ h => h) | exact (fun _ _ h => h.elim) | (intro k hl hk; (try simp only [At, New, Grow, From, No] at hk ⊢); omega) | (intro k hl hk; first | (simp only [At, No] at hk; omega) | (have := hFW k hk; omega) | (have := hFW2 k hk; omega)))
  refine WL.val rfl rfl rfl rfl (r_move rfl (ev_t rfl)) ?_
  refine WL.val rfl rfl rfl rfl (r_extract rfl (ev_t rfl) rfl) ?_
  refine WL.val rfl rfl rfl rfl (r_extract rfl (ev_t rfl) rfl) ?_
  refine WL.val rfl rfl rfl rfl (r_assign rfl (ev_t rfl)) ?_
  refine WL.val rfl rfl rfl rfl (r_assign rfl (ev_t rfl)) ?_
  refine WL.nil ?_
  refine WX.keep [(2, _)] ⟨rfl, trivial⟩ ?_
  refine WX.next ?_
  refine WC.seq ?_
  refine WC.region ?_
  refine WL.cons (SO.alloc rfl rfl rfl rfl (r_buildSlice1 (vs := [_]) rfl ⟨ev_c, trivial⟩ rfl row_22 rfl rfl) ?_)
  intro w2 hu2 hB2 hz2
  have hs2 := hu2.size
  replace hU := hU.trans hu2 (by first | exact (fun _ _ h => h) | exact (fun _ _ h => h.elim) | (intro k hl hk; (try simp only [At, New, Grow, From, No] at hk ⊢); omega) | (intro k hl hk; first | (simp only [At, No] at hk; omega) | (have := hFW k hk; omega) | (have := hFW2 k hk; omega)))
  replace hW := hW.upd hu2 (by first | exact (fun _ _ _ h => h) | (intro k hk hl hS; simp only [At] at hS; have := hFW k hk; omega) | (intro k hk hl hS; simp only [At] at hS; have := hFW2 k hk; omega))
  refine WL.cons (SO.convSS rfl (ev_t rfl) elem_22 int_5 hB2 rfl rfl rfl rfl ?_)
  intro w3 z3 hu3 hF3 hz3
  have hs3 := hu3.size
  replace hU := hU.trans hu3 (by first | exact (fun _ _ h => h) | exact (fun _ _ h => h.elim) | (intro k hl hk; (try simp only [At, New, Grow, From, No] at hk ⊢); omega) | (intro k hl hk; first | (simp only [At, No] at hk; omega) | (have := hFW k hk; omega) | (have := hFW2 k hk; omega)))
  replace hW := hW.upd hu3 (by first | exact (fun _ _ _ h => h) | (intro k hk hl hS; simp only [At] at hS; have := hFW k hk; omega) | (intro k hk hl hS; simp only [At] at hS; have := hFW2 k hk; omega))
  have hx : Rd w3 (At _) _ 1 1 (([120] : List UInt8).map U8) := Rd.of_heap (F := At _) (n := 1) (sz := 1) (cs := #[.int .u8 120]) hF3 rfl rfl (by omega)
  have hs2 := hU.size
  refine WL.val rfl rfl rfl rfl (r_build (cs := #[_, _, _, _]) (vs := [(0, _), (1, _), (2, _), (3, _)]) rfl ⟨⟨rfl, ev_c⟩, ⟨rfl, ev_c⟩, ⟨rfl, ev_c⟩, ⟨rfl, (ev_t rfl)⟩, trivial⟩ plc_33 zero_33 rfl) ?_
  refine WL.cons (SO.alloc rfl rfl rfl rfl (r_alloc rfl zero_33) ?_)
  intro w4 hu4 hB4 hz4
  have hs4 := hu4.size
  replace hU := hU.trans hu4 (by first | exact (fun _ _ h => h) | exact (fun _ _ h => h.elim) | (intro k hl hk; (try simp only [At, New, Grow, From, No] at hk ⊢); omega) | (intro k hl hk; first | (simp only [At, No] at hk; omega) | (have := hFW k hk; omega) | (have := hFW2 k hk; omega)))
  replace hW := hW.upd hu4 (by first | exact (fun _ _ _ h => h) | (intro k hk hl hS; simp only [At] at hS; have := hFW k hk; omega) | (intro k hk hl hS; simp only [At] at hS; have := hFW2 k hk; omega))
  replace hx := hx.upd hu4 (by first | exact (fun _ _ _ h => h) | (intro k hk hl hS; simp only [At] at hk hS; omega) | (intro k hk hl hS; simp only [At] at hk; have := hFW k hS; omega) | (intro k hk hl hS; simp only [At] at hk; have := hFW2 k hS; omega))
  refine WL.cons (SO.storeAll (us := [_, _, _, _]) rfl (ev_t rfl) (ev_t rfl) size_33 hB4 rfl rfl rfl rfl rfl ?_)
  intro w5 hu5 hB4 hz5
  have hs5 := hu5.size
  replace hU := hU.trans hu5 (by first | exact (fun _ _ h => h) | exact (fun _ _ h => h.elim) | (intro k hl hk; (try simp only [At, New, Grow, From, No] at hk ⊢); omega) | (intro k hl hk; first | (simp only [At, No] at hk; omega) | (have := hFW k hk; omega) | (have := hFW2 k hk; omega)))
  replace hW := hW.upd hu5 (by first | exact (fun _ _ _ h => h) | (intro k hk hl hS; simp only [At] at hS; have := hFW k hk; omega) | (intro k hk hl hS; simp only [At] at hS; have := hFW2 k hk; omega))
  replace hx := hx.upd hu5 (by first | exact (fun _ _ _ h => h) | (intro k hk hl hS; simp only [At] at hk hS; omega) | (intro k hk hl hS; simp only [At] at hk; have := hFW k hS; omega) | (intro k hk hl hS; simp only [At] at hk; have := hFW2 k hS; omega))
  refine WL.nil ?_
  refine WX.keep [(2, _), (3, _)] ⟨rfl, rfl, trivial⟩ ?_
  have hxB := hB4
  change Blk _ _ #[.int .u64 1, .int .u64 1, .int .u64 1, .slice (some ⟨w1.heap.size, 0, none⟩) 1 1] _ at hxB
  refine WX.next ?_
  refine WC.seq ?_
  refine WC.region ?_
  refine WL.cons (SO.alloc rfl rfl rfl rfl (r_buildSlice1 (vs := [_]) rfl ⟨ev_c, trivial⟩ rfl row_22 rfl rfl) ?_)
  intro w6 hu6 hB6 hz6
  have hs6 := hu6.size
  replace hU := hU.trans hu6 (by first | exact (fun _ _ h => h) | exact (fun _ _ h => h.elim) | (intro k hl hk; (try simp only [At, New, Grow, From, No] at hk ⊢); omega) | (intro k hl hk; first | (simp only [At, No] at hk; omega) | (have := hFW k hk; omega) | (have := hFW2 k hk; omega)))
  replace hW := hW.upd hu6 (by first | exact (fun _ _ _ h => h) | (intro k hk hl hS; simp only [At] at hS; have := hFW k hk; omega) | (intro k hk hl hS; simp only [At] at hS; have := hFW2 k hk; omega))
  replace hx := hx.upd hu6 (by first | exact (fun _ _ _ h => h) | (intro k hk hl hS; simp only [At] at hk hS; omega) | (intro k hk hl hS; simp only [At] at hk; have := hFW k hS; omega) | (intro k hk hl hS; simp only [At] at hk; have := hFW2 k hS; omega))
  replace hxB := hxB.upd hu6 (by first | exact (fun h => h) | (simp only [At]; omega) | (intro h; have := hFW _ h; omega) | (intro h; have := hFW2 _ h; omega))
  refine WL.cons (SO.convSS rfl (ev_t rfl) elem_22 int_5 hB6 rfl rfl rfl rfl ?_)
  intro w7 z7 hu7 hF7 hz7
  have hs7 := hu7.size
  replace hU := hU.trans hu7 (by first | exact (fun _ _ h => h) | exact (fun _ _ h => h.elim) | (intro k hl hk; (try simp only [At, New, Grow, From, No] at hk ⊢); omega) | (intro k hl hk; first | (simp only [At, No] at hk; omega) | (have := hFW k hk; omega) | (have := hFW2 k hk; omega)))
  replace hW := hW.upd hu7 (by first | exact (fun _ _ _ h => h) | (intro k hk hl hS; simp only [At] at hS; have := hFW k hk; omega) | (intro k hk hl hS; simp only [At] at hS; have := hFW2 k hk; omega))
  replace hx := hx.upd hu7 (by first | exact (fun _ _ _ h => h) | (intro k hk hl hS; simp only [At] at hk hS; omega) | (intro k hk hl hS; simp only [At] at hk; have := hFW k hS; omega) | (intro k hk hl hS; simp only [At] at hk; have := hFW2 k hS; omega))
  replace hxB := hxB.upd hu7 (by first | exact (fun h => h) | (simp only [At]; omega) | (intro h; have := hFW _ h; omega) | (intro h; have := hFW2 _ h; omega))
  have hz : Rd w7 (At _) _ 1 1 (([122] : List UInt8).map U8) := Rd.of_heap (F := At _) (n := 1) (sz := 1) (cs := #[.int .u8 122]) hF7 rfl rfl (by omega)
  refine WL.val rfl rfl rfl rfl (r_build (cs := #[_, _, _, _]) (vs := [(0, _), (1, _), (2, _), (3, _)]) rfl ⟨⟨rfl, ev_c⟩, ⟨rfl, ev_c⟩, ⟨rfl, ev_c⟩, ⟨rfl, (ev_t rfl)⟩, trivial⟩ plc_33 zero_33 rfl) ?_
  refine WL.cons (SO.alloc rfl rfl rfl rfl (r_alloc rfl zero_33) ?_)
  intro w8 hu8 hB8 hz8
  have hs8 := hu8.size
  replace hU := hU.trans hu8 (by first | exact (fun _ _ h => h) | exact (fun _ _ h => h.elim) | (intro k hl hk; (try simp only [At, New, Grow, From, No] at hk ⊢); omega) | (intro k hl hk; first | (simp only [At, No] at hk; omega) | (have := hFW k hk; omega) | (have := hFW2 k hk; omega)))
  replace hW := hW.upd hu8 (by first | exact (fun _ _ _ h => h) | (intro k hk hl hS; simp only [At] at hS; have := hFW k hk; omega) | (intro k hk hl hS; simp only [At] at hS; have := hFW2 k hk; omega))
  replace hx := hx.upd hu8 (by first | exact (fun _ _ _ h => h) | (intro k hk hl hS; simp only [At] at hk hS; omega) | (intro k hk hl hS; simp only [At] at hk; have := hFW k hS; omega) | (intro k hk hl hS; simp only [At] at hk; have := hFW2 k hS; omega))
  replace hxB := hxB.upd hu8 (by first | exact (fun h => h) | (simp only [At]; omega) | (intro h; have := hFW _ h; omega) | (intro h; have := hFW2 _ h; omega))
  replace hz := hz.upd hu8 (by first | exact (fun _ _ _ h => h) | (intro k hk hl hS; simp only [At] at hk hS; omega) | (intro k hk hl hS; simp only [At] at hk; have := hFW k hS; omega) | (intro k hk hl hS; simp only [At] at hk; have := hFW2 k hS; omega))
  refine WL.cons (SO.storeAll (us := [_, _, _, _]) rfl (ev_t rfl) (ev_t rfl) size_33 hB8 rfl rfl rfl rfl rfl ?_)
  intro w9 hu9 hB8 hz9
  have hs9 := hu9.size
  replace hU := hU.trans hu9 (by first | exact (fun _ _ h => h) | exact (fun _ _ h => h.elim) | (intro k hl hk; (try simp only [At, New, Grow, From, No] at hk ⊢); omega) | (intro k hl hk; first | (simp only [At, No] at hk; omega) | (have := hFW k hk; omega) | (have := hFW2 k hk; omega)))
  replace hW := hW.upd hu9 (by first | exact (fun _ _ _ h => h) | (intro k hk hl hS; simp only [At] at hS; have := hFW k hk; omega) | (intro k hk hl hS; simp only [At] at hS; have := hFW2 k hk; omega))
  replace hx := hx.upd hu9 (by first | exact (fun _ _ _ h => h) | (intro k hk hl hS; simp only [At] at hk hS; omega) | (intro k hk hl hS; simp only [At] at hk; have := hFW k hS; omega) | (intro k hk hl hS; simp only [At] at hk; have := hFW2 k hS; omega))
  replace hxB := hxB.upd hu9 (by first | exact (fun h => h) | (simp only [At]; omega) | (intro h; have := hFW _ h; omega) | (intro h; have := hFW2 _ h; omega))
  replace hz := hz.upd hu9 (by first | exact (fun _ _ _ h => h) | (intro k hk hl hS; simp only [At] at hk hS; omega) | (intro k hk hl hS; simp only [At] at hk; have := hFW k hS; omega) | (intro k hk hl hS; simp only [At] at hk; have := hFW2 k hS; omega))
  refine WL.nil ?_
  refine WX.keep [(2, _), (3, _), (4, _)] ⟨rfl, rfl, rfl, trivial⟩ ?_
  have hzB := hB8
  change Blk _ _ #[.int .u64 2, .int .u64 2, .int .u64 1, .slice (some ⟨w5.heap.size, 0, none⟩) 1 1] _ at hzB
  refine WX.next ?_
  refine WC.seq ?_
  refine WC.seq ?_
  refine WC.region ?_
  refine WL.val rfl rfl rfl rfl (r_move rfl (ev_t rfl)) ?_
  refine WL.val rfl rfl rfl rfl (r_eqlPtrNil rfl (ev_t rfl) ev_c ptr_25) ?_
  refine WL.val rfl rfl rfl rfl (r_move rfl (ev_t rfl)) ?_
  refine WL.cases 17 rfl (fun hb4_2 => ?_) (fun hb4_2 => ?_)
  · try (exfalso; first | (simp at hb4_2; done) | (simp only [decide_eq_true_eq, decide_eq_false_iff_not, Bool.not_eq_true', Bool.not_eq_false', Bool.not_eq_true, Bool.not_eq_false] at hb4_2; omega) | omega)
    all_goals
     try simp only [decide_eq_true_eq, decide_eq_false_iff_not, Bool.not_eq_true', Bool.not_eq_false', Bool.not_eq_true, Bool.not_eq_false, Option.isNone_none, Option.isNone_some, Option.isSome_none, Option.isSome_some, ne_eq, Decidable.not_not] at hb4_2
     refine WL.skip rfl rfl rfl ?_
     refine WL.skip rfl rfl rfl ?_
     refine WL.skip rfl rfl rfl ?_
     refine WL.skip rfl rfl rfl ?_
     refine WL.val rfl rfl rfl rfl (r_pickT rfl (ev_t rfl) ev_c) ?_
     refine WL.val rfl rfl rfl rfl (r_move rfl (ev_t rfl)) ?_
     refine WL.skip rfl rfl rfl ?_
     refine WL.skip rfl rfl rfl ?_
     refine WL.skip rfl rfl rfl ?_
     refine WL.skip rfl rfl rfl ?_
     refine WL.skip rfl rfl rfl ?_
     refine WL.skip rfl rfl rfl ?_
     refine WL.val rfl rfl rfl rfl (r_pickT rfl (ev_t rfl) ev_c) ?_
     refine WL.val rfl rfl rfl rfl (r_move rfl (ev_t rfl)) ?_
     refine WL.skip rfl rfl rfl ?_
     refine WL.skip rfl rfl rfl ?_
     refine WL.skip rfl rfl rfl ?_
     refine WL.skip rfl rfl rfl ?_
     refine WL.skip rfl rfl rfl ?_
     refine WL.val rfl rfl rfl rfl (r_pickT rfl (ev_t rfl) ev_c) ?_
     refine WL.nil ?_
     refine WX.keep [(2, _), (3, _), (4, _), (37, _)] ⟨rfl, rfl, rfl, rfl, trivial⟩ ?_
     refine WX.next ?_
     refine WC.cond_true rfl (ev_t rfl) ?_
     refine WC.seq ?_
     refine WC.region ?_
     refine WL.val rfl rfl rfl rfl (r_assign rfl ev_c) ?_
     refine WL.nil ?_
     refine WX.keep [(0, _)] ⟨rfl, trivial⟩ ?_
     refine WX.next ?_
     refine WC.ret ?_
     refine WX.thenRet ?_
     refine WX.retE1 rfl rfl ?_
     exact ⟨rfl, hU⟩
  · try (exfalso; first | (simp at hb4_2; done) | (simp only [decide_eq_true_eq, decide_eq_false_iff_not, Bool.not_eq_true', Bool.not_eq_false', Bool.not_eq_true, Bool.not_eq_false] at hb4_2; omega) | omega)
    all_goals
     try simp only [decide_eq_true_eq, decide_eq_false_iff_not, Bool.not_eq_true', Bool.not_eq_false', Bool.not_eq_true, Bool.not_eq_false, Option.isNone_none, Option.isNone_some, Option.isSome_none, Option.isSome_some, ne_eq, Decidable.not_not] at hb4_2
     refine WL.val rfl rfl rfl rfl (r_move rfl (ev_t rfl)) ?_
     refine WL.cons (SO.call (state_ok (s := ⟨0, -1, 0, []⟩) hW (by decide) (fun x h => by cases h)) rfl body_10 ⟨(ev_t rfl), trivial⟩ rfl rfl rfl rfl ?_)
     rintro v9 w10 ⟨lv', rfl, _, hu10⟩
     have hs10 := hu10.size
     replace hU := hU.trans hu10 (by first | exact (fun _ _ h => h) | exact (fun _ _ h => h.elim) | (intro k hl hk; (try simp only [At, New, Grow, From, No] at hk ⊢); omega) | (intro k hl hk; first | (simp only [At, No] at hk; omega) | (have := hFW k hk; omega) | (have := hFW2 k hk; omega)))
     replace hW := hW.upd hu10 (by first | exact (fun _ _ _ h => h) | (intro k hk hl hS; simp only [At] at hS; have := hFW k hk; omega) | (intro k hk hl hS; simp only [At] at hS; have := hFW2 k hk; omega))
     replace hx := hx.upd hu10 (by first | exact (fun _ _ _ h => h) | (intro k hk hl hS; simp only [At] at hk hS; omega) | (intro k hk hl hS; simp only [At] at hk; have := hFW k hS; omega) | (intro k hk hl hS; simp only [At] at hk; have := hFW2 k hS; omega))
     replace hxB := hxB.upd hu10 (by first | exact (fun h => h) | (simp only [At]; omega) | (intro h; have := hFW _ h; omega) | (intro h; have := hFW2 _ h; omega))
     replace hz := hz.upd hu10 (by first | exact (fun _ _ _ h => h) | (intro k hk hl hS; simp only [At] at hk hS; omega) | (intro k hk hl hS; simp only [At] at hk; have := hFW k hS; omega) | (intro k hk hl hS; simp only [At] at hk; have := hFW2 k hS; omega))
     replace hzB := hzB.upd hu10 (by first | exact (fun h => h) | (simp only [At]; omega) | (intro h; have := hFW _ h; omega) | (intro h; have := hFW2 _ h; omega))
     refine WL.val rfl rfl rfl rfl (r_fieldV (n := 1) rfl (ev_t rfl) (by kernel_rfl) rfl) ?_
     refine WL.val rfl rfl rfl rfl (r_neq rfl (ev_t rfl) ev_c) ?_
     refine WL.val rfl rfl rfl rfl (r_pickF rfl (ev_t rfl) (ev_t rfl)) ?_
     refine WL.val rfl rfl rfl rfl (r_move rfl (ev_t rfl)) ?_
     refine WL.cases 23 rfl (fun hb4_8 => ?_) (fun hb4_8 => ?_)
     · try (exfalso; first | (simp at hb4_8; done) | (simp only [decide_eq_true_eq, decide_eq_false_iff_not, Bool.not_eq_true', Bool.not_eq_false', Bool.not_eq_true, Bool.not_eq_false] at hb4_8; omega) | omega)
       all_goals
        try simp only [decide_eq_true_eq, decide_eq_false_iff_not, Bool.not_eq_true', Bool.not_eq_false', Bool.not_eq_true, Bool.not_eq_false, Option.isNone_none, Option.isNone_some, Option.isSome_none, Option.isSome_some, ne_eq, Decidable.not_not] at hb4_8
        refine WL.skip rfl rfl rfl ?_
        refine WL.skip rfl rfl rfl ?_
        refine WL.skip rfl rfl rfl ?_
        refine WL.skip rfl rfl rfl ?_
        refine WL.skip rfl rfl rfl ?_
        refine WL.skip rfl rfl rfl ?_
        refine WL.val rfl rfl rfl rfl (r_pickT rfl (ev_t rfl) ev_c) ?_
        refine WL.val rfl rfl rfl rfl (r_move rfl (ev_t rfl)) ?_
        refine WL.skip rfl rfl rfl ?_
        refine WL.skip rfl rfl rfl ?_
        refine WL.skip rfl rfl rfl ?_
        refine WL.skip rfl rfl rfl ?_
        refine WL.skip rfl rfl rfl ?_
        refine WL.val rfl rfl rfl rfl (r_pickT rfl (ev_t rfl) ev_c) ?_
        refine WL.nil ?_
        refine WX.keep [(2, _), (3, _), (4, _), (37, _)] ⟨rfl, rfl, rfl, rfl, trivial⟩ ?_
        refine WX.next ?_
        refine WC.cond_true rfl (ev_t rfl) ?_
        refine WC.seq ?_
        refine WC.region ?_
        refine WL.val rfl rfl rfl rfl (r_assign rfl ev_c) ?_
        refine WL.nil ?_
        refine WX.keep [(0, _)] ⟨rfl, trivial⟩ ?_
        refine WX.next ?_
        refine WC.ret ?_
        refine WX.thenRet ?_
        refine WX.retE1 rfl rfl ?_
        exact ⟨rfl, hU⟩
     · try (exfalso; first | (simp at hb4_8; done) | (simp only [decide_eq_true_eq, decide_eq_false_iff_not, Bool.not_eq_true', Bool.not_eq_false', Bool.not_eq_true, Bool.not_eq_false] at hb4_8; omega) | omega)
       all_goals
        try simp only [decide_eq_true_eq, decide_eq_false_iff_not, Bool.not_eq_true', Bool.not_eq_false', Bool.not_eq_true, Bool.not_eq_false, Option.isNone_none, Option.isNone_some, Option.isSome_none, Option.isSome_some, ne_eq, Decidable.not_not] at hb4_8
        refine WL.val rfl rfl rfl rfl (r_move rfl (ev_t rfl)) ?_
        refine WL.val rfl rfl rfl rfl (r_loadAgg (vs := [_, _, _, _]) rfl (ev_t rfl) agg_33 size_33 (Blk.cellsL hxB)) ?_
        refine WL.val rfl rfl rfl rfl (r_loadAgg (vs := [_, _, _, _]) rfl (ev_t rfl) agg_33 size_33 (Blk.cellsL hxB)) ?_
        refine WL.cons (SO.alloc rfl rfl rfl rfl (r_buildSlice44 rfl (ev_t rfl) (ev_t rfl) row_28) ?_)
        intro w11 hu11 hl2 hz9
        have hs11 := hu11.size
        replace hU := hU.trans hu11 (by first | exact (fun _ _ h => h) | exact (fun _ _ h => h.elim) | (intro k hl hk; (try simp only [At, New, Grow, From, No] at hk ⊢); omega) | (intro k hl hk; first | (simp only [At, No] at hk; omega) | (have := hFW k hk; omega) | (have := hFW2 k hk; omega)))
        replace hW := hW.upd hu11 (by first | exact (fun _ _ _ h => h) | (intro k hk hl hS; simp only [At] at hS; have := hFW k hk; omega) | (intro k hk hl hS; simp only [At] at hS; have := hFW2 k hk; omega))
        replace hx := hx.upd hu11 (by first | exact (fun _ _ _ h => h) | (intro k hk hl hS; simp only [At] at hk hS; omega) | (intro k hk hl hS; simp only [At] at hk; have := hFW k hS; omega) | (intro k hk hl hS; simp only [At] at hk; have := hFW2 k hS; omega))
        replace hxB := hxB.upd hu11 (by first | exact (fun h => h) | (simp only [At]; omega) | (intro h; have := hFW _ h; omega) | (intro h; have := hFW2 _ h; omega))
        replace hz := hz.upd hu11 (by first | exact (fun _ _ _ h => h) | (intro k hk hl hS; simp only [At] at hk hS; omega) | (intro k hk hl hS; simp only [At] at hk; have := hFW k hS; omega) | (intro k hk hl hS; simp only [At] at hk; have := hFW2 k hS; omega))
        replace hzB := hzB.upd hu11 (by first | exact (fun h => h) | (simp only [At]; omega) | (intro h; have := hFW _ h; omega) | (intro h; have := hFW2 _ h; omega))
        have hs4 := hU.size
        refine WL.cons (SO.call (Save_ok (a := 1) (side := 1) (k0 := 0) (t := 1) (v := 0) (s := st0) (L := [xA, xA]) (Fl := fun k => FW k → False) hW hQ (by omega) (by omega) (by decide) (by omega) (by simp) (by simp [st0]) (by simp [st0]) ⟨[⟨xA, .slice (some ⟨w1.heap.size, 0, none⟩) 1 1⟩, ⟨xA, .slice (some ⟨w1.heap.size, 0, none⟩) 1 1⟩], rfl, Rd.of_blk (n := 2) (sz := 4) hl2 (fun h => by have := hFW _ h; omega) rfl (by omega), fun r hr => by (simp only [List.mem_cons, List.not_mem_nil, or_false, or_self] at hr; subst hr; exact hx.mono fun k hk h => by simp only [At] at hk; have := hFW _ h; omega)⟩ (by simp) (by simp) (fun x hx => by simp only [List.mem_cons, List.not_mem_nil, or_false, or_self] at hx; subst hx; exact ⟨xA_ok.1, by decide⟩) (fun k h => h) (Nat.le_trans roomA1 (by omega))) rfl body_7 ⟨(ev_t rfl), ev_c, ev_c, ev_c, (ev_t rfl), trivial⟩ rfl rfl rfl rfl ?_)
        rintro v9 w12 ⟨rfl, D1, hW1, hQ1, hu12⟩
        have hs5 := hu12.size
        have hFW2 : ∀ k, Grow FW w11 w12 k → w.heap.size ≤ k ∧ k < w12.heap.size ∧ (k < w1.heap.size ∨ w11.heap.size ≤ k) := fun k hk => by
          rcases hk with h | h
          · have := hFW k h; omega
          · omega
        generalize Grow FW w11 w12 = FW2 at hW1 hFW2
        have hW := hW1
        clear hW1
        have hs12 := hu12.size
        replace hU := hU.trans hu12 (by first | exact (fun _ _ h => h) | exact (fun _ _ h => h.elim) | (intro k hl hk; (try simp only [At, New, Grow, From, No] at hk ⊢); omega) | (intro k hl hk; first | (simp only [At, No] at hk; omega) | (have := hFW k hk; omega) | (have := hFW2 k hk; omega)))
        replace hx := hx.upd hu12 (by first | exact (fun _ _ _ h => h) | (intro k hk hl hS; simp only [At] at hk hS; omega) | (intro k hk hl hS; simp only [At] at hk; have := hFW k hS; omega) | (intro k hk hl hS; simp only [At] at hk; have := hFW2 k hS; omega))
        replace hxB := hxB.upd hu12 (by first | exact (fun h => h) | (simp only [At]; omega) | (intro h; have := hFW _ h; omega) | (intro h; have := hFW2 _ h; omega))
        replace hz := hz.upd hu12 (by first | exact (fun _ _ _ h => h) | (intro k hk hl hS; simp only [At] at hk hS; omega) | (intro k hk hl hS; simp only [At] at hk; have := hFW k hS; omega) | (intro k hk hl hS; simp only [At] at hk; have := hFW2 k hS; omega))
        replace hzB := hzB.upd hu12 (by first | exact (fun h => h) | (simp only [At]; omega) | (intro h; have := hFW _ h; omega) | (intro h; have := hFW2 _ h; omega))
        refine WL.val rfl rfl rfl rfl (r_neq rfl (ev_t rfl) ev_c) ?_
        refine WL.val rfl rfl rfl rfl (r_pickF rfl (ev_t rfl) (ev_t rfl)) ?_
        refine WL.val rfl rfl rfl rfl (r_move rfl (ev_t rfl)) ?_
        refine WL.cases 31 rfl (fun hb4_16 => ?_) (fun hb4_16 => ?_)
        · try (exfalso; first | (simp at hb4_16; done) | (simp only [decide_eq_true_eq, decide_eq_false_iff_not, Bool.not_eq_true', Bool.not_eq_false', Bool.not_eq_true, Bool.not_eq_false] at hb4_16; omega) | omega)
          all_goals
           try simp only [decide_eq_true_eq, decide_eq_false_iff_not, Bool.not_eq_true', Bool.not_eq_false', Bool.not_eq_true, Bool.not_eq_false, Option.isNone_none, Option.isNone_some, Option.isSome_none, Option.isSome_some, ne_eq, Decidable.not_not] at hb4_16
           refine WL.skip rfl rfl rfl ?_
           refine WL.skip rfl rfl rfl ?_
           refine WL.skip rfl rfl rfl ?_
           refine WL.skip rfl rfl rfl ?_
           refine WL.skip rfl rfl rfl ?_
           refine WL.val rfl rfl rfl rfl (r_pickT rfl (ev_t rfl) ev_c) ?_
           refine WL.nil ?_
           refine WX.keep [(2, _), (3, _), (4, _), (37, _)] ⟨rfl, rfl, rfl, rfl, trivial⟩ ?_
           refine WX.next ?_
           refine WC.cond_true rfl (ev_t rfl) ?_
           refine WC.seq ?_
           refine WC.region ?_
           refine WL.val rfl rfl rfl rfl (r_assign rfl ev_c) ?_
           refine WL.nil ?_
           refine WX.keep [(0, _)] ⟨rfl, trivial⟩ ?_
           refine WX.next ?_
           refine WC.ret ?_
           refine WX.thenRet ?_
           refine WX.retE1 rfl rfl ?_
           exact ⟨rfl, hU⟩
        · try (exfalso; first | (simp at hb4_16; done) | (simp only [decide_eq_true_eq, decide_eq_false_iff_not, Bool.not_eq_true', Bool.not_eq_false', Bool.not_eq_true, Bool.not_eq_false] at hb4_16; omega) | omega)
          all_goals
           try simp only [decide_eq_true_eq, decide_eq_false_iff_not, Bool.not_eq_true', Bool.not_eq_false', Bool.not_eq_true, Bool.not_eq_false, Option.isNone_none, Option.isNone_some, Option.isSome_none, Option.isSome_some, ne_eq, Decidable.not_not] at hb4_16
           refine WL.val rfl rfl rfl rfl (r_move rfl (ev_t rfl)) ?_
           refine WL.val rfl rfl rfl rfl (r_loadAgg (vs := [_, _, _, _]) rfl (ev_t rfl) agg_33 size_33 (Blk.cellsL hzB)) ?_
           refine WL.cons (SO.alloc rfl rfl rfl rfl (r_buildSlice (cs := #[_, _, _, _]) (vs := [(0, _)]) rfl ⟨⟨rfl, (ev_t rfl)⟩, trivial⟩ row_28 rfl rfl) ?_)
           intro w13 hu13 hB13 hz13
           have hs13 := hu13.size
           replace hU := hU.trans hu13 (by first | exact (fun _ _ h => h) | exact (fun _ _ h => h.elim) | (intro k hl hk; (try simp only [At, New, Grow, From, No] at hk ⊢); omega) | (intro k hl hk; first | (simp only [At, No] at hk; omega) | (have := hFW k hk; omega) | (have := hFW2 k hk; omega)))
           replace hW := hW.upd hu13 (by first | exact (fun _ _ _ h => h) | (intro k hk hl hS; simp only [At] at hS; have := hFW k hk; omega) | (intro k hk hl hS; simp only [At] at hS; have := hFW2 k hk; omega))
           replace hx := hx.upd hu13 (by first | exact (fun _ _ _ h => h) | (intro k hk hl hS; simp only [At] at hk hS; omega) | (intro k hk hl hS; simp only [At] at hk; have := hFW k hS; omega) | (intro k hk hl hS; simp only [At] at hk; have := hFW2 k hS; omega))
           replace hxB := hxB.upd hu13 (by first | exact (fun h => h) | (simp only [At]; omega) | (intro h; have := hFW _ h; omega) | (intro h; have := hFW2 _ h; omega))
           replace hz := hz.upd hu13 (by first | exact (fun _ _ _ h => h) | (intro k hk hl hS; simp only [At] at hk hS; omega) | (intro k hk hl hS; simp only [At] at hk; have := hFW k hS; omega) | (intro k hk hl hS; simp only [At] at hk; have := hFW2 k hS; omega))
           replace hzB := hzB.upd hu13 (by first | exact (fun h => h) | (simp only [At]; omega) | (intro h; have := hFW _ h; omega) | (intro h; have := hFW2 _ h; omega))
           have hl3 := hB13
           have hs6 := hU.size
           refine WL.cons (SO.call (Save_ok (a := 1) (side := 1) (k0 := 1) (t := 2) (v := -1) (s := ⟨1, 0, 0, [xA, xA]⟩) (L := [zA]) (Fl := fun k => FW2 k → False) hW hQ1 (by omega) (by omega) (by decide) (by omega) (by simp) (by simp) (by simp) ⟨[⟨zA, .slice (some ⟨w5.heap.size, 0, none⟩) 1 1⟩], rfl, Rd.of_blk (n := 1) (sz := 4) hl3 (fun h => by have := hFW2 _ h; omega) rfl (by omega), fun r hr => by (obtain rfl := List.mem_singleton.1 hr; exact hz.mono fun k hk h => by simp only [At] at hk; have := hFW2 _ h; omega)⟩ (by simp) (by simp) (fun x hx => by simp only [List.mem_cons, List.not_mem_nil, or_false, or_self] at hx; subst hx; exact ⟨zA_ok.1, by decide⟩) (fun k h => h) (roomA2 (by rw [putA_same, List.length_append]; exact roomA1))) rfl body_7 ⟨(ev_t rfl), ev_c, ev_c, ev_c, (ev_t rfl), trivial⟩ rfl rfl rfl rfl ?_)
           rintro v9 w14 ⟨rfl, D2, hW2, hQ2, hu14⟩
           have hW9 : IsWal w14 (fun _ => True) p d D2 1 1 1 ⟨2, -1, 0, [xA, zA]⟩ := hW2.mono (fun _ _ _ => trivial)
           clear hW hW2
           have hs14 := hu14.size
           replace hU := hU.trans hu14 (by first | exact (fun _ _ h => h) | exact (fun _ _ h => h.elim) | (intro k hl hk; (try simp only [At, New, Grow, From, No] at hk ⊢); omega) | (intro k hl hk; first | (simp only [At, No] at hk; omega) | (have := hFW k hk; omega) | (have := hFW2 k hk; omega)))
           replace hx := hx.upd hu14 (by first | exact (fun _ _ _ h => h) | (intro k hk hl hS; simp only [At] at hk hS; omega) | (intro k hk hl hS; simp only [At] at hk; have := hFW k hS; omega) | (intro k hk hl hS; simp only [At] at hk; have := hFW2 k hS; omega))
           replace hxB := hxB.upd hu14 (by first | exact (fun h => h) | (simp only [At]; omega) | (intro h; have := hFW _ h; omega) | (intro h; have := hFW2 _ h; omega))
           replace hz := hz.upd hu14 (by first | exact (fun _ _ _ h => h) | (intro k hk hl hS; simp only [At] at hk hS; omega) | (intro k hk hl hS; simp only [At] at hk; have := hFW k hS; omega) | (intro k hk hl hS; simp only [At] at hk; have := hFW2 k hS; omega))
           replace hzB := hzB.upd hu14 (by first | exact (fun h => h) | (simp only [At]; omega) | (intro h; have := hFW _ h; omega) | (intro h; have := hFW2 _ h; omega))
           refine WL.val rfl rfl rfl rfl (r_neq rfl (ev_t rfl) ev_c) ?_
           refine WL.val rfl rfl rfl rfl (r_pickF rfl (ev_t rfl) (ev_t rfl)) ?_
           refine WL.nil ?_
           refine WX.keep [(2, _), (3, _), (4, _), (37, _)] ⟨rfl, rfl, rfl, rfl, trivial⟩ ?_
           refine WX.next ?_
           refine WC.cond rfl (ev_t rfl) (fun hc4 => ?_) (fun hc4 => ?_)
           · try (exfalso; first | (simp at hc4; done) | (simp only [decide_eq_true_eq, decide_eq_false_iff_not, Bool.not_eq_true', Bool.not_eq_false', Bool.not_eq_true, Bool.not_eq_false] at hc4; omega) | omega)
             all_goals
              try simp only [decide_eq_true_eq, decide_eq_false_iff_not, Bool.not_eq_true', Bool.not_eq_false', Bool.not_eq_true, Bool.not_eq_false, Option.isNone_none, Option.isNone_some, Option.isSome_none, Option.isSome_some, ne_eq, Decidable.not_not] at hc4
              refine WC.seq ?_
              refine WC.region ?_
              refine WL.val rfl rfl rfl rfl (r_assign rfl ev_c) ?_
              refine WL.nil ?_
              refine WX.keep [(0, _)] ⟨rfl, trivial⟩ ?_
              refine WX.next ?_
              refine WC.ret ?_
              refine WX.thenRet ?_
              refine WX.retE1 rfl rfl ?_
              exact ⟨rfl, hU⟩
           · try (exfalso; first | (simp at hc4; done) | (simp only [decide_eq_true_eq, decide_eq_false_iff_not, Bool.not_eq_true', Bool.not_eq_false', Bool.not_eq_true, Bool.not_eq_false] at hc4; omega) | omega)
             all_goals
              try simp only [decide_eq_true_eq, decide_eq_false_iff_not, Bool.not_eq_true', Bool.not_eq_false', Bool.not_eq_true, Bool.not_eq_false, Option.isNone_none, Option.isNone_some, Option.isSome_none, Option.isSome_some, ne_eq, Decidable.not_not] at hc4
              refine WC.skip ?_
              refine WX.next ?_
              refine WC.seq ?_
              refine WC.draws' (fun u0_ u1_ => Upd No u0_ u1_) (fun j => [0, 1, 0, 0, 2, 0, 2, 0].getD j 0) (.calm 0 (.held 2 (.held 3 (.two 1 4 (.one 4 (.calm 5 (.one 6 (.calm 7 (.done))))) (.calm 5 (.one 1 (.one 6 (.calm 7 (.done))))))))) mixed (by kernel_rfl) (by repeat (first | with_reducible exact Deaf.body | with_reducible apply Deaf.then | with_reducible apply Deaf.block)) ?_
              intro w15 hu15
              have hz15 := congrArg Array.size hu15.2.2.2
              replace hu15 := Upd.of_draw hu15
              have hs15 := hu15.size
              replace hU := hU.trans hu15 (by first | exact (fun _ _ h => h) | exact (fun _ _ h => h.elim) | (intro k hl hk; (try simp only [At, New, Grow, From, No] at hk ⊢); omega) | (intro k hl hk; first | (simp only [At, No] at hk; omega) | (have := hFW k hk; omega) | (have := hFW2 k hk; omega)))
              replace hx := hx.upd hu15 (by first | exact (fun _ _ _ h => h) | (intro k hk hl hS; simp only [At] at hk hS; omega) | (intro k hk hl hS; simp only [At] at hk; have := hFW k hS; omega) | (intro k hk hl hS; simp only [At] at hk; have := hFW2 k hS; omega))
              replace hxB := hxB.upd hu15 (by first | exact (fun h => h) | (simp only [At]; omega) | (intro h; have := hFW _ h; omega) | (intro h; have := hFW2 _ h; omega))
              replace hz := hz.upd hu15 (by first | exact (fun _ _ _ h => h) | (intro k hk hl hS; simp only [At] at hk hS; omega) | (intro k hk hl hS; simp only [At] at hk; have := hFW k hS; omega) | (intro k hk hl hS; simp only [At] at hk; have := hFW2 k hS; omega))
              replace hzB := hzB.upd hu15 (by first | exact (fun h => h) | (simp only [At]; omega) | (intro h; have := hFW _ h; omega) | (intro h; have := hFW2 _ h; omega))
              replace hW9 := hW9.upd hu15 (by first | exact (fun _ _ _ h => h))
              have hS6 := Upd.refl No w15
              refine WN.calm _ rfl rfl rfl rfl rfl (fun _ => r_move rfl (ev_t rfl)) ?_
              refine WN.held _ rfl rfl rfl rfl rfl hS6 (fun w' hS => r_loadAgg (vs := [_, _, _, _]) rfl (ev_t rfl) agg_33 size_33 (Blk.cellsL (hxB.upd hS (fun h => h)))) ?_
              refine WN.held _ rfl rfl rfl rfl rfl hS6 (fun w' hS => r_loadAgg (vs := [_, _, _, _]) rfl (ev_t rfl) agg_33 size_33 (Blk.cellsL (hzB.upd hS (fun h => h)))) ?_
              refine WN.fork _ _ rfl rfl ?_ ?_
              · refine SO.call (state_ok hW9 (by decide) (fun x hx => by simp only [List.mem_cons, List.not_mem_nil, or_false] at hx; rcases hx with rfl | rfl <;> decide)) rfl body_10 ⟨(ev_t rfl), trivial⟩ rfl rfl rfl rfl ?_
                rintro v9 w16 ⟨lv', rfl, hDE, hu16⟩
                have hs16 := hu16.size
                replace hS6 := Upd.transA hS6 hu16
                replace hU := hU.trans hu16 (by first | exact (fun _ _ h => h) | exact (fun _ _ h => h.elim) | (intro k hl hk; (try simp only [At, New, Grow, From, No] at hk ⊢); omega) | (intro k hl hk; first | (simp only [At, No] at hk; omega) | (have := hFW k hk; omega) | (have := hFW2 k hk; omega)))
                replace hx := hx.upd hu16 (by first | exact (fun _ _ _ h => h) | (intro k hk hl hS; simp only [At] at hk hS; omega) | (intro k hk hl hS; simp only [At] at hk; have := hFW k hS; omega) | (intro k hk hl hS; simp only [At] at hk; have := hFW2 k hS; omega))
                replace hxB := hxB.upd hu16 (by first | exact (fun h => h) | (simp only [At]; omega) | (intro h; have := hFW _ h; omega) | (intro h; have := hFW2 _ h; omega))
                replace hz := hz.upd hu16 (by first | exact (fun _ _ _ h => h) | (intro k hk hl hS; simp only [At] at hk hS; omega) | (intro k hk hl hS; simp only [At] at hk; have := hFW k hS; omega) | (intro k hk hl hS; simp only [At] at hk; have := hFW2 k hS; omega))
                replace hzB := hzB.upd hu16 (by first | exact (fun h => h) | (simp only [At]; omega) | (intro h; have := hFW _ h; omega) | (intro h; have := hFW2 _ h; omega))
                replace hW9 := hW9.upd hu16 (by first | exact (fun _ _ _ h => h))
                refine ⟨hS6, ?_⟩
                refine WN.step _ rfl (SO.alloc rfl rfl rfl rfl (r_buildSlice44 rfl (ev_t rfl) (ev_t rfl) row_28) ?_)
                intro w17 hu17 hBl hz9
                have hs17 := hu17.size
                try replace hS6 := Upd.transA hS6 hu17
                replace hU := hU.trans hu17 (by first | exact (fun _ _ h => h) | exact (fun _ _ h => h.elim) | (intro k hl hk; (try simp only [At, New, Grow, From, No] at hk ⊢); omega) | (intro k hl hk; first | (simp only [At, No] at hk; omega) | (have := hFW k hk; omega) | (have := hFW2 k hk; omega)))
                replace hx := hx.upd hu17 (by first | exact (fun _ _ _ h => h) | (intro k hk hl hS; simp only [At] at hk hS; omega) | (intro k hk hl hS; simp only [At] at hk; have := hFW k hS; omega) | (intro k hk hl hS; simp only [At] at hk; have := hFW2 k hS; omega))
                replace hxB := hxB.upd hu17 (by first | exact (fun h => h) | (simp only [At]; omega) | (intro h; have := hFW _ h; omega) | (intro h; have := hFW2 _ h; omega))
                replace hz := hz.upd hu17 (by first | exact (fun _ _ _ h => h) | (intro k hk hl hS; simp only [At] at hk hS; omega) | (intro k hk hl hS; simp only [At] at hk; have := hFW k hS; omega) | (intro k hk hl hS; simp only [At] at hk; have := hFW2 k hS; omega))
                replace hzB := hzB.upd hu17 (by first | exact (fun h => h) | (simp only [At]; omega) | (intro h; have := hFW _ h; omega) | (intro h; have := hFW2 _ h; omega))
                replace hW9 := hW9.upd hu17 (by first | exact (fun _ _ _ h => h))
                replace hDE := hDE.upd hu17 (by first | exact (fun _ _ _ h => h))
                refine ⟨trivial, ?_⟩
                refine WN.calm _ rfl rfl rfl rfl rfl (fun _ => r_build (cs := #[_, _, _, _]) (vs := [(0, _), (1, _), (3, _)]) rfl ⟨⟨rfl, ev_c⟩, ⟨rfl, ev_c⟩, ⟨rfl, (ev_t rfl)⟩, trivial⟩ plc_31 zero_31 rfl) ?_
                refine WN.step _ rfl (SO.call (Same14_ok (s := ⟨2, -1, 0, [xA, zA]⟩) (F' := fun _ => True) (hDE.rd (by decide) (fun x hx => by simp only [List.mem_cons, List.not_mem_nil, or_false] at hx; rcases hx with rfl | rfl <;> decide)) ⟨[⟨xA, .slice (some ⟨w1.heap.size, 0, none⟩) 1 1⟩, ⟨zA, .slice (some ⟨w5.heap.size, 0, none⟩) 1 1⟩], rfl, Rd.of_blk (n := 2) (sz := 4) hBl trivial rfl (by omega), fun r hr => by (simp only [List.mem_cons, List.not_mem_nil, or_false] at hr; rcases hr with rfl | rfl; exact hx.mono (fun _ _ => trivial); exact hz.mono (fun _ _ => trivial))⟩) rfl body_9 ⟨(ev_t rfl), (ev_t rfl), trivial⟩ rfl rfl rfl rfl ?_)
                rintro v9 w18 ⟨rfl, hu18⟩
                have hs18 := hu18.size
                try replace hS6 := Upd.transA hS6 hu18
                replace hU := hU.trans hu18 (by first | exact (fun _ _ h => h) | exact (fun _ _ h => h.elim) | (intro k hl hk; (try simp only [At, New, Grow, From, No] at hk ⊢); omega) | (intro k hl hk; first | (simp only [At, No] at hk; omega) | (have := hFW k hk; omega) | (have := hFW2 k hk; omega)))
                replace hx := hx.upd hu18 (by first | exact (fun _ _ _ h => h) | (intro k hk hl hS; simp only [At] at hk hS; omega) | (intro k hk hl hS; simp only [At] at hk; have := hFW k hS; omega) | (intro k hk hl hS; simp only [At] at hk; have := hFW2 k hS; omega))
                replace hxB := hxB.upd hu18 (by first | exact (fun h => h) | (simp only [At]; omega) | (intro h; have := hFW _ h; omega) | (intro h; have := hFW2 _ h; omega))
                replace hz := hz.upd hu18 (by first | exact (fun _ _ _ h => h) | (intro k hk hl hS; simp only [At] at hk hS; omega) | (intro k hk hl hS; simp only [At] at hk; have := hFW k hS; omega) | (intro k hk hl hS; simp only [At] at hk; have := hFW2 k hS; omega))
                replace hzB := hzB.upd hu18 (by first | exact (fun h => h) | (simp only [At]; omega) | (intro h; have := hFW _ h; omega) | (intro h; have := hFW2 _ h; omega))
                replace hW9 := hW9.upd hu18 (by first | exact (fun _ _ _ h => h))
                replace hDE := hDE.upd hu18 (by first | exact (fun _ _ _ h => h))
                replace hBl := hBl.upd hu18 (fun h => h)
                refine ⟨trivial, ?_⟩
                refine WN.calm _ rfl rfl rfl rfl rfl (fun _ => r_assign rfl (ev_t rfl)) ?_
                refine WN.done ?_
                refine WX.keep [(0, _)] ⟨rfl, trivial⟩ ?_
                refine WX.next ?_
                refine WC.ret ?_
                refine WX.retE1 rfl rfl ?_
                exact ⟨rfl, hU⟩
              · refine SO.alloc rfl rfl rfl rfl (r_buildSlice44 rfl (ev_t rfl) (ev_t rfl) row_28) ?_
                intro w19 hu19 hBl hz9
                have hs19 := hu19.size
                try replace hS6 := Upd.transA hS6 hu19
                replace hU := hU.trans hu19 (by first | exact (fun _ _ h => h) | exact (fun _ _ h => h.elim) | (intro k hl hk; (try simp only [At, New, Grow, From, No] at hk ⊢); omega) | (intro k hl hk; first | (simp only [At, No] at hk; omega) | (have := hFW k hk; omega) | (have := hFW2 k hk; omega)))
                replace hx := hx.upd hu19 (by first | exact (fun _ _ _ h => h) | (intro k hk hl hS; simp only [At] at hk hS; omega) | (intro k hk hl hS; simp only [At] at hk; have := hFW k hS; omega) | (intro k hk hl hS; simp only [At] at hk; have := hFW2 k hS; omega))
                replace hxB := hxB.upd hu19 (by first | exact (fun h => h) | (simp only [At]; omega) | (intro h; have := hFW _ h; omega) | (intro h; have := hFW2 _ h; omega))
                replace hz := hz.upd hu19 (by first | exact (fun _ _ _ h => h) | (intro k hk hl hS; simp only [At] at hk hS; omega) | (intro k hk hl hS; simp only [At] at hk; have := hFW k hS; omega) | (intro k hk hl hS; simp only [At] at hk; have := hFW2 k hS; omega))
                replace hzB := hzB.upd hu19 (by first | exact (fun h => h) | (simp only [At]; omega) | (intro h; have := hFW _ h; omega) | (intro h; have := hFW2 _ h; omega))
                replace hW9 := hW9.upd hu19 (by first | exact (fun _ _ _ h => h))
                refine ⟨trivial, ?_⟩
                refine WN.calm _ rfl rfl rfl rfl rfl (fun _ => r_build (cs := #[_, _, _, _]) (vs := [(0, _), (1, _), (3, _)]) rfl ⟨⟨rfl, ev_c⟩, ⟨rfl, ev_c⟩, ⟨rfl, (ev_t rfl)⟩, trivial⟩ plc_31 zero_31 rfl) ?_
                refine WN.step _ rfl (SO.call (state_ok hW9 (by decide) (fun x hx => by simp only [List.mem_cons, List.not_mem_nil, or_false] at hx; rcases hx with rfl | rfl <;> decide)) rfl body_10 ⟨(ev_t rfl), trivial⟩ rfl rfl rfl rfl ?_)
                rintro v9 w20 ⟨lv', rfl, hDE, hu20⟩
                have hs20 := hu20.size
                replace hS6 := Upd.transA hS6 hu20
                replace hU := hU.trans hu20 (by first | exact (fun _ _ h => h) | exact (fun _ _ h => h.elim) | (intro k hl hk; (try simp only [At, New, Grow, From, No] at hk ⊢); omega) | (intro k hl hk; first | (simp only [At, No] at hk; omega) | (have := hFW k hk; omega) | (have := hFW2 k hk; omega)))
                replace hx := hx.upd hu20 (by first | exact (fun _ _ _ h => h) | (intro k hk hl hS; simp only [At] at hk hS; omega) | (intro k hk hl hS; simp only [At] at hk; have := hFW k hS; omega) | (intro k hk hl hS; simp only [At] at hk; have := hFW2 k hS; omega))
                replace hxB := hxB.upd hu20 (by first | exact (fun h => h) | (simp only [At]; omega) | (intro h; have := hFW _ h; omega) | (intro h; have := hFW2 _ h; omega))
                replace hz := hz.upd hu20 (by first | exact (fun _ _ _ h => h) | (intro k hk hl hS; simp only [At] at hk hS; omega) | (intro k hk hl hS; simp only [At] at hk; have := hFW k hS; omega) | (intro k hk hl hS; simp only [At] at hk; have := hFW2 k hS; omega))
                replace hzB := hzB.upd hu20 (by first | exact (fun h => h) | (simp only [At]; omega) | (intro h; have := hFW _ h; omega) | (intro h; have := hFW2 _ h; omega))
                replace hW9 := hW9.upd hu20 (by first | exact (fun _ _ _ h => h))
                replace hBl := hBl.upd hu20 (fun h => h)
                refine ⟨hS6, ?_⟩
                refine WN.step _ rfl (SO.call (Same14_ok (s := ⟨2, -1, 0, [xA, zA]⟩) (F' := fun _ => True) (hDE.rd (by decide) (fun x hx => by simp only [List.mem_cons, List.not_mem_nil, or_false] at hx; rcases hx with rfl | rfl <;> decide)) ⟨[⟨xA, .slice (some ⟨w1.heap.size, 0, none⟩) 1 1⟩, ⟨zA, .slice (some ⟨w5.heap.size, 0, none⟩) 1 1⟩], rfl, Rd.of_blk (n := 2) (sz := 4) hBl trivial rfl (by omega), fun r hr => by (simp only [List.mem_cons, List.not_mem_nil, or_false] at hr; rcases hr with rfl | rfl; exact hx.mono (fun _ _ => trivial); exact hz.mono (fun _ _ => trivial))⟩) rfl body_9 ⟨(ev_t rfl), (ev_t rfl), trivial⟩ rfl rfl rfl rfl ?_)
                rintro v9 w21 ⟨rfl, hu21⟩
                have hs21 := hu21.size
                try replace hS6 := Upd.transA hS6 hu21
                replace hU := hU.trans hu21 (by first | exact (fun _ _ h => h) | exact (fun _ _ h => h.elim) | (intro k hl hk; (try simp only [At, New, Grow, From, No] at hk ⊢); omega) | (intro k hl hk; first | (simp only [At, No] at hk; omega) | (have := hFW k hk; omega) | (have := hFW2 k hk; omega)))
                replace hx := hx.upd hu21 (by first | exact (fun _ _ _ h => h) | (intro k hk hl hS; simp only [At] at hk hS; omega) | (intro k hk hl hS; simp only [At] at hk; have := hFW k hS; omega) | (intro k hk hl hS; simp only [At] at hk; have := hFW2 k hS; omega))
                replace hxB := hxB.upd hu21 (by first | exact (fun h => h) | (simp only [At]; omega) | (intro h; have := hFW _ h; omega) | (intro h; have := hFW2 _ h; omega))
                replace hz := hz.upd hu21 (by first | exact (fun _ _ _ h => h) | (intro k hk hl hS; simp only [At] at hk hS; omega) | (intro k hk hl hS; simp only [At] at hk; have := hFW k hS; omega) | (intro k hk hl hS; simp only [At] at hk; have := hFW2 k hS; omega))
                replace hzB := hzB.upd hu21 (by first | exact (fun h => h) | (simp only [At]; omega) | (intro h; have := hFW _ h; omega) | (intro h; have := hFW2 _ h; omega))
                replace hW9 := hW9.upd hu21 (by first | exact (fun _ _ _ h => h))
                replace hBl := hBl.upd hu21 (fun h => h)
                replace hDE := hDE.upd hu21 (by first | exact (fun _ _ _ h => h))
                refine ⟨trivial, ?_⟩
                refine WN.calm _ rfl rfl rfl rfl rfl (fun _ => r_assign rfl (ev_t rfl)) ?_
                refine WN.done ?_
                refine WX.keep [(0, _)] ⟨rfl, trivial⟩ ?_
                refine WX.next ?_
                refine WC.ret ?_
                refine WX.retE1 rfl rfl ?_
                exact ⟨rfl, hU⟩
end Go.Proofs.Ytnjfhmlfpfkllaa

/-
  Law 14: what stands on a log's track, read record by record.
-/
namespace Go.Proofs.Ytnjfhmlfpfkllaa
open Go
set_option linter.unusedSimpArgs false
set_option linter.unusedVariables false

def x5 : En := ⟨5, 0, 0, [120]⟩
theorem x5_ok : x5.ok ∧ x5.cell.length ≤ 1 := ⟨⟨by decide, by decide, by decide, by decide⟩, by decide⟩
def p5 : List UInt8 := allB 0 (-1) 0 1 ++ (recVo 5 1 ++ entB (st0.base + 1 + 0) [x5])
def A5 : Nat → Nat
  | 0 => 0 | 1 => 11 | 2 => 20 | 3 => 30 | 4 => 42 | _ => 59
def S5 : Nat → WSt
  | 0 => st0 | 1 => st0 | 2 => st0 | 3 => st0 | 4 => ⟨5, 1, 0, []⟩ | _ => ⟨5, 1, 0, [x5]⟩
def N5 : Nat → Nat
  | 0 => 0 | 1 => 0 | 2 => 0 | _ => 1
theorem p5_len : p5.length = 59 := by decide +kernel
theorem step5 : ∀ j, j < 5 → StepS p5 (A5 j) (S5 j) (N5 j) (A5 (j + 1)) (S5 (j + 1)) (N5 (j + 1)) := by
  intro j hj
  match j, hj with
  | 0, _ =>
    refine ⟨9, 2, [1, 1, 0, 1, 1], by decide +kernel, by decide +kernel, by decide +kernel, ?_, rfl⟩
    have h := TakeS.vote (b := [1, 1, 0, 1, 1]) (s := st0) (n := 0) (s1 := some [0, 1, 1]) (t := 0) (s2 := some [1, 1]) (v := 1) (by decide +kernel) (by decide +kernel) (by decide +kernel) (by decide) (by decide)
    rw [show zag 1 = -1 by decide] at h
    exact h
  | 1, _ =>
    exact ⟨7, 2, [1, 3, 0], by decide +kernel, by decide +kernel, by decide +kernel, TakeS.base (b := [1, 3, 0]) (s := st0) (n := 0) (s1 := some [0]) (i := 0) (by decide +kernel) (by decide +kernel), rfl⟩
  | 2, _ =>
    exact ⟨8, 2, [1, 4, 1, 1], by decide +kernel, by decide +kernel, by decide +kernel, TakeS.ready (b := [1, 4, 1, 1]) (s := st0) (n := 0) (s1 := some [1, 1]) (t := 1) (by decide +kernel) (by decide +kernel) (by decide), rfl⟩
  | 3, _ =>
    refine ⟨10, 2, [1, 1, 1, 5, 1, 2], by decide +kernel, by decide +kernel, by decide +kernel, ?_, rfl⟩
    have h := TakeS.vote (b := [1, 1, 1, 5, 1, 2]) (s := st0) (n := 1) (s1 := some [1, 5, 1, 2]) (t := 5) (s2 := some [1, 2]) (v := 2) (by decide +kernel) (by decide +kernel) (by decide +kernel) (by decide) (by decide)
    rw [show zag 2 = 1 by decide] at h
    exact h
  | 4, _ =>
    exact ⟨15, 2, [1, 2, 1, 1, 1, 5, 0, 0, 1, 1, 120], by decide +kernel, by decide +kernel, by decide +kernel, TakeS.entry (b := [1, 2, 1, 1, 1, 5, 0, 0, 1, 1, 120]) (s := ⟨5, 1, 0, []⟩) (n := 1) (x := x5) (s1 := some [1, 1, 1, 5, 0, 0, 1, 1, 120]) (i := 1) (s2 := some [1, 5, 0, 0, 1, 1, 120]) (s3 := some [0, 0, 1, 1, 120]) (s4 := some [0, 1, 1, 120]) (s5 := some [1, 1, 120])
      (by decide +kernel) (by decide +kernel) (by decide +kernel) (by decide +kernel) (by decide +kernel) (by decide +kernel) rfl rfl, rfl⟩

theorem flat8_get : ∀ {l : List (List Value)} {i j : Nat} {a : List Value} {u : Value}, (∀ a ∈ l, a.length = 8) → l[i]? = some a → a[j]? = some u → (l.flatMap id)[i * 8 + j]? = some u
  | [], _, _, _, _, _, h, _ => by simp at h
  | a :: l, 0, j, b, u, hl, h, hu => by
    simp only [List.getElem?_cons_zero, Option.some.injEq] at h
    subst h
    have hj : j < a.length := (List.getElem?_eq_some_iff.1 hu).1
    rw [List.flatMap_cons, Nat.zero_mul, Nat.zero_add, id, List.getElem?_append_left hj]
    exact hu
  | a :: l, i + 1, j, b, u, hl, h, hu => by
    have h8 := hl a (by simp)
    rw [List.flatMap_cons, id, List.getElem?_append_right (by omega), h8, show (i + 1) * 8 + j - 8 = i * 8 + j by omega]
    exact flat8_get (fun x hx => hl x (by simp [hx])) (i := i) (by simpa using h) hu
end Go.Proofs.Ytnjfhmlfpfkllaa

/-
  Law 14: WalTwice.
-/
namespace Go.Proofs.Ytnjfhmlfpfkllaa
open Go
set_option linter.unusedSimpArgs false
set_option linter.unusedVariables false

set_option maxHeartbeats 8000000 in
theorem walTwice.walk {w : World} {sv : Value} {l : List (List Value)} (hs : Rd w (fun k => k < w.heap.size) sv l.length 8 (l.flatMap id)) (hA : ∀ a ∈ l, a.length = 8 ∧ ∃ c : UInt8, a[3]? = some (U8 c)) : Ret Try.prog 4 #[sv] w fun v w' => v = .bool true ∧ Upd No w w' := by
  obtain ⟨As, cs, rfl, hcs⟩ := hs.slice_form
  have hlm := hs.le
  refine enterRet (vs := [_]) (N := 66) Try.func4 rfl rfl rfl ?_
  have hU := Upd.refl No w
  refine WC.keep [(0, _)] ⟨rfl, trivial⟩ ?_
  refine WC.seq ?_
  refine WC.region ?_
  refine WL.val rfl rfl rfl rfl (r_assign rfl ev_c) ?_
  refine WL.nil ?_
  refine WX.keep [(0, _)] ⟨rfl, trivial⟩ ?_
  refine WX.next ?_
  refine WC.seq ?_
  refine WC.seq ?_
  refine WC.region ?_
  refine WL.cons (SO.call (awake14_ok _) rfl body_5 trivial rfl rfl rfl rfl ?_)
  rintro v9 w1 ⟨rfl, hu1⟩
  have hs1 := hu1.size
  replace hU := hU.trans hu1 (by first | exact (fun _ _ h => h) | exact (fun _ _ h => h.elim) | (intro k hl hk; (try simp only [At, New, Grow, From, No] at hk ⊢); omega) | (intro k hl hk; first | (simp only [At, No] at hk; omega) | (have := hFW k hk; omega) | (have := hFd k hk; omega) | (have := hRd k hk; omega)))
  refine WL.val rfl rfl rfl rfl (r_not rfl (ev_t rfl)) ?_
  refine WL.nil ?_
  refine WX.keep [(0, _), (11, _)] ⟨rfl, rfl, trivial⟩ ?_
  refine WX.next ?_
  refine WC.cond rfl (ev_t rfl) (fun hc1 => ?_) (fun hc1 => ?_)
  · try (exfalso; first | (simp at hc1; done) | (simp only [decide_eq_true_eq, decide_eq_false_iff_not, Bool.not_eq_true', Bool.not_eq_false', Bool.not_eq_true, Bool.not_eq_false] at hc1; omega) | omega)
    all_goals
     try simp only [decide_eq_true_eq, decide_eq_false_iff_not, Bool.not_eq_true', Bool.not_eq_false', Bool.not_eq_true, Bool.not_eq_false, Option.isNone_none, Option.isNone_some, Option.isSome_none, Option.isSome_some, ne_eq, Decidable.not_not] at hc1
     refine WC.seq ?_
     refine WC.region ?_
     refine WL.val rfl rfl rfl rfl (r_assign rfl ev_c) ?_
     refine WL.nil ?_
     refine WX.keep [(2, _)] ⟨rfl, trivial⟩ ?_
     refine WX.next ?_
     refine WC.ret ?_
     refine WX.thenRet ?_
     refine WX.retE1 rfl rfl ?_
     exact ⟨rfl, hU⟩
  · try (exfalso; first | (simp at hc1; done) | (simp only [decide_eq_true_eq, decide_eq_false_iff_not, Bool.not_eq_true', Bool.not_eq_false', Bool.not_eq_true, Bool.not_eq_false] at hc1; omega) | omega)
    all_goals
     try simp only [decide_eq_true_eq, decide_eq_false_iff_not, Bool.not_eq_true', Bool.not_eq_false', Bool.not_eq_true, Bool.not_eq_false, Option.isNone_none, Option.isNone_some, Option.isSome_none, Option.isSome_some, ne_eq, Decidable.not_not] at hc1
     refine WC.skip ?_
     refine WX.next ?_
     refine WC.seq ?_
     refine WC.region ?_
     refine WL.cons (SO.call (open14_ok (m := 50000) (by omega)) rfl body_6 ⟨ev_c, trivial⟩ rfl rfl rfl rfl ?_)
     rintro v9 w2 ⟨d, p, D, rfl, hW, hQ, hu2⟩
     have hs1 := hU.size
     have hFW : ∀ k, New w1 w2 k → w.heap.size ≤ k ∧ k < w2.heap.size := fun k hk => by simp only [New] at hk; omega
     generalize New w1 w2 = FW at hW hFW
     obtain ⟨T0, hT0⟩ : ∃ T0, T0 = putA (fun _ => []) 2 (allB 0 (-1) 0 1) := ⟨_, rfl⟩
     rw [← hT0] at hQ
     have hT02 : T0 (1 + 1) = allB 0 (-1) 0 1 := by rw [hT0]; exact putA_same _ _ _
     have hT01 : T0 1 = [] := by rw [hT0]; exact putA_ne (by decide)
     have hT00 : T0 0 = [] := by rw [hT0]; exact putA_ne (by decide)
     clear hT0
     have hs2 := hu2.size
     replace hU := hU.trans hu2 (by first | exact (fun _ _ h => h) | exact (fun _ _ h => h.elim) | (intro k hl hk; (try simp only [At, New, Grow, From, No] at hk ⊢); omega) | (intro k hl hk; first | (simp only [At, No] at hk; omega) | (have := hFW k hk; omega) | (have := hFd k hk; omega) | (have := hRd k hk; omega)))
     refine WL.val rfl rfl rfl rfl (r_move rfl (ev_t rfl)) ?_
     refine WL.val rfl rfl rfl rfl (r_extract rfl (ev_t rfl) rfl) ?_
     refine WL.val rfl rfl rfl rfl (r_extract rfl (ev_t rfl) rfl) ?_
     refine WL.val rfl rfl rfl rfl (r_assign rfl (ev_t rfl)) ?_
     refine WL.val rfl rfl rfl rfl (r_assign rfl (ev_t rfl)) ?_
     refine WL.nil ?_
     refine WX.keep [(0, _), (3, _), (4, _)] ⟨rfl, rfl, rfl, trivial⟩ ?_
     refine WX.next ?_
     refine WC.seq ?_
     refine WC.seq ?_
     refine WC.region ?_
     refine WL.val rfl rfl rfl rfl (r_move rfl (ev_t rfl)) ?_
     refine WL.val rfl rfl rfl rfl (r_eqlPtrNil rfl (ev_t rfl) ev_c ptr_25) ?_
     refine WL.nil ?_
     refine WX.keep [(0, _), (3, _), (4, _), (17, _)] ⟨rfl, rfl, rfl, rfl, trivial⟩ ?_
     refine WX.next ?_
     refine WC.cond rfl (ev_t rfl) (fun hc4 => ?_) (fun hc4 => ?_)
     · try (exfalso; first | (simp at hc4; done) | (simp only [decide_eq_true_eq, decide_eq_false_iff_not, Bool.not_eq_true', Bool.not_eq_false', Bool.not_eq_true, Bool.not_eq_false] at hc4; omega) | omega)
       all_goals
        try simp only [decide_eq_true_eq, decide_eq_false_iff_not, Bool.not_eq_true', Bool.not_eq_false', Bool.not_eq_true, Bool.not_eq_false, Option.isNone_none, Option.isNone_some, Option.isSome_none, Option.isSome_some, ne_eq, Decidable.not_not] at hc4
        refine WC.seq ?_
        refine WC.region ?_
        refine WL.val rfl rfl rfl rfl (r_assign rfl ev_c) ?_
        refine WL.nil ?_
        refine WX.keep [(2, _)] ⟨rfl, trivial⟩ ?_
        refine WX.next ?_
        refine WC.ret ?_
        refine WX.thenRet ?_
        refine WX.retE1 rfl rfl ?_
        exact ⟨rfl, hU⟩
     · try (exfalso; first | (simp at hc4; done) | (simp only [decide_eq_true_eq, decide_eq_false_iff_not, Bool.not_eq_true', Bool.not_eq_false', Bool.not_eq_true, Bool.not_eq_false] at hc4; omega) | omega)
       all_goals
        try simp only [decide_eq_true_eq, decide_eq_false_iff_not, Bool.not_eq_true', Bool.not_eq_false', Bool.not_eq_true, Bool.not_eq_false, Option.isNone_none, Option.isNone_some, Option.isSome_none, Option.isSome_some, ne_eq, Decidable.not_not] at hc4
        refine WC.skip ?_
        refine WX.next ?_
        refine WC.seq ?_
        refine WC.region ?_
        refine WL.cons (SO.alloc rfl rfl rfl rfl (r_buildSlice1 (vs := [_]) rfl ⟨ev_c, trivial⟩ rfl row_22 rfl rfl) ?_)
        intro w3 hu3 hB3 hz3
        have hs3 := hu3.size
        replace hU := hU.trans hu3 (by first | exact (fun _ _ h => h) | exact (fun _ _ h => h.elim) | (intro k hl hk; (try simp only [At, New, Grow, From, No] at hk ⊢); omega) | (intro k hl hk; first | (simp only [At, No] at hk; omega) | (have := hFW k hk; omega) | (have := hFd k hk; omega) | (have := hRd k hk; omega)))
        replace hW := hW.upd hu3 (by first | exact (fun _ _ _ h => h) | (intro k hk hl hS; simp only [At] at hS; have := hFW k hk; omega) | (intro k hk hl hS; simp only [At] at hS; have := hFda k hk; omega))
        refine WL.cons (SO.convSS rfl (ev_t rfl) elem_22 int_5 hB3 rfl rfl rfl rfl ?_)
        intro w4 z4 hu4 hF4 hz4
        have hs4 := hu4.size
        replace hU := hU.trans hu4 (by first | exact (fun _ _ h => h) | exact (fun _ _ h => h.elim) | (intro k hl hk; (try simp only [At, New, Grow, From, No] at hk ⊢); omega) | (intro k hl hk; first | (simp only [At, No] at hk; omega) | (have := hFW k hk; omega) | (have := hFd k hk; omega) | (have := hRd k hk; omega)))
        replace hW := hW.upd hu4 (by first | exact (fun _ _ _ h => h) | (intro k hk hl hS; simp only [At] at hS; have := hFW k hk; omega) | (intro k hk hl hS; simp only [At] at hS; have := hFda k hk; omega))
        have hx := Rd.of_heap (F := At _) (n := 1) (sz := 1) hF4 rfl rfl (by omega)
        change Rd w4 (At w2.heap.size) (.slice (some ⟨w2.heap.size, 0, none⟩) 1 1) 1 1 (([120] : List UInt8).map U8) at hx
        refine WL.val rfl rfl rfl rfl (r_build (cs := #[_, _, _, _]) (vs := [(0, _), (3, _)]) rfl ⟨⟨rfl, ev_c⟩, ⟨rfl, (ev_t rfl)⟩, trivial⟩ plc_33 zero_33 rfl) ?_
        refine WL.cons (SO.alloc rfl rfl rfl rfl (r_alloc rfl zero_33) ?_)
        intro w5 hu5 hB5 hz5
        have hs5 := hu5.size
        replace hU := hU.trans hu5 (by first | exact (fun _ _ h => h) | exact (fun _ _ h => h.elim) | (intro k hl hk; (try simp only [At, New, Grow, From, No] at hk ⊢); omega) | (intro k hl hk; first | (simp only [At, No] at hk; omega) | (have := hFW k hk; omega) | (have := hFd k hk; omega) | (have := hRd k hk; omega)))
        replace hW := hW.upd hu5 (by first | exact (fun _ _ _ h => h) | (intro k hk hl hS; simp only [At] at hS; have := hFW k hk; omega) | (intro k hk hl hS; simp only [At] at hS; have := hFda k hk; omega))
        replace hx := hx.upd hu5 (by first | exact (fun _ _ _ h => h) | (intro k hk hl hS; simp only [At] at hk hS; omega) | (intro k hk hl hS; simp only [At] at hk; have := hFW k hS; omega))
        refine WL.cons (SO.storeAll (us := [_, _, _, _]) rfl (ev_t rfl) (ev_t rfl) size_33 hB5 rfl rfl rfl rfl rfl ?_)
        intro w6 hu6 hB5 hz6
        have hs6 := hu6.size
        replace hU := hU.trans hu6 (by first | exact (fun _ _ h => h) | exact (fun _ _ h => h.elim) | (intro k hl hk; (try simp only [At, New, Grow, From, No] at hk ⊢); omega) | (intro k hl hk; first | (simp only [At, No] at hk; omega) | (have := hFW k hk; omega) | (have := hFd k hk; omega) | (have := hRd k hk; omega)))
        replace hW := hW.upd hu6 (by first | exact (fun _ _ _ h => h) | (intro k hk hl hS; simp only [At] at hS; have := hFW k hk; omega) | (intro k hk hl hS; simp only [At] at hS; have := hFda k hk; omega))
        replace hx := hx.upd hu6 (by first | exact (fun _ _ _ h => h) | (intro k hk hl hS; simp only [At] at hk hS; omega) | (intro k hk hl hS; simp only [At] at hk; have := hFW k hS; omega))
        refine WL.nil ?_
        refine WX.keep [(0, _), (3, _), (4, _), (5, _)] ⟨rfl, rfl, rfl, rfl, trivial⟩ ?_
        have hxB := hB5
        refine WX.next ?_
        refine WC.seq ?_
        refine WC.seq ?_
        refine WC.region ?_
        refine WL.val rfl rfl rfl rfl (r_move rfl (ev_t rfl)) ?_
        refine WL.val rfl rfl rfl rfl (r_loadAgg (vs := [_, _, _, _]) rfl (ev_t rfl) agg_33 size_33 (Blk.cellsL hxB)) ?_
        refine WL.cons (SO.alloc rfl rfl rfl rfl (r_buildSlice (cs := #[_, _, _, _]) (vs := [(0, _)]) rfl ⟨⟨rfl, (ev_t rfl)⟩, trivial⟩ row_28 rfl rfl) ?_)
        intro w7 hu7 hB7 hz7
        have hs7 := hu7.size
        replace hU := hU.trans hu7 (by first | exact (fun _ _ h => h) | exact (fun _ _ h => h.elim) | (intro k hl hk; (try simp only [At, New, Grow, From, No] at hk ⊢); omega) | (intro k hl hk; first | (simp only [At, No] at hk; omega) | (have := hFW k hk; omega) | (have := hFd k hk; omega) | (have := hRd k hk; omega)))
        replace hW := hW.upd hu7 (by first | exact (fun _ _ _ h => h) | (intro k hk hl hS; simp only [At] at hS; have := hFW k hk; omega) | (intro k hk hl hS; simp only [At] at hS; have := hFda k hk; omega))
        replace hx := hx.upd hu7 (by first | exact (fun _ _ _ h => h) | (intro k hk hl hS; simp only [At] at hk hS; omega) | (intro k hk hl hS; simp only [At] at hk; have := hFW k hS; omega))
        replace hxB := hxB.upd hu7 (by first | exact (fun h => h) | (simp only [At]; omega) | (intro h; have := hFW _ h; omega))
        have hl2 := hB7
        have hs4 := hU.size
        refine WL.cons (SO.call (Save_ok (a := 1) (side := 1) (k0 := 0) (t := 5) (v := 1) (s := st0) (L := [x5]) (Fl := fun k => FW k → False) hW hQ (by omega) (by omega) (by decide) (by omega) (by simp) (by simp [st0]) (by simp [st0]) ⟨[⟨x5, .slice (some ⟨w2.heap.size, 0, none⟩) 1 1⟩], rfl, Rd.of_blk (n := 1) (sz := 4) hl2 (fun h => by have := hFW _ h; omega) rfl (by omega), fun r hr => by (obtain rfl := List.mem_singleton.1 hr; exact hx.mono fun k hk h => by simp only [At] at hk; have := hFW _ h; omega)⟩ (by simp) (by simp) (fun x hx => by obtain rfl := List.mem_singleton.1 hx; exact ⟨x5_ok.1, by decide⟩) (fun k h => h) (by have h9 := congrArg List.length (show p5 = T0 (1 + 1) ++ (recVo 5 1 ++ entB (st0.base + 1 + 0) [x5]) by rw [hT02]; rfl); rw [p5_len, List.length_append] at h9; omega)) rfl body_7 ⟨(ev_t rfl), ev_c, ev_c, ev_c, (ev_t rfl), trivial⟩ rfl rfl rfl rfl ?_)
        rintro v9 w8 ⟨rfl, D1, hW1, hQ1, hu8⟩
        have hs5 := hu8.size
        have hFd : ∀ k, Grow FW w7 w8 k → w.heap.size ≤ k ∧ k < w8.heap.size := fun k hk => by
          rcases hk with h | h
          · have := hFW k h; omega
          · omega
        generalize Grow FW w7 w8 = FW2 at hW1 hFd
        have hW := hW1
        clear hW1
        change IsWal _ _ _ _ _ _ _ _ ⟨5, 1, 0, [x5]⟩ at hW
        have hs8 := hu8.size
        replace hU := hU.trans hu8 (by first | exact (fun _ _ h => h) | exact (fun _ _ h => h.elim) | (intro k hl hk; (try simp only [At, New, Grow, From, No] at hk ⊢); omega) | (intro k hl hk; first | (simp only [At, No] at hk; omega) | (have := hFW k hk; omega) | (have := hFd k hk; omega) | (have := hRd k hk; omega)))
        replace hx := hx.upd hu8 (by first | exact (fun _ _ _ h => h) | (intro k hk hl hS; simp only [At] at hk hS; omega) | (intro k hk hl hS; simp only [At] at hk; have := hFW k hS; omega))
        replace hxB := hxB.upd hu8 (by first | exact (fun h => h) | (simp only [At]; omega) | (intro h; have := hFW _ h; omega))
        have hT12 : putA T0 (1 + 1) (T0 (1 + 1) ++ (recVo 5 1 ++ entB (st0.base + 1 + 0) [x5])) (1 + 1) = p5 := by rw [putA_same, hT02]; rfl
        have hT11 : putA T0 (1 + 1) (T0 (1 + 1) ++ (recVo 5 1 ++ entB (st0.base + 1 + 0) [x5])) 1 = [] := by rw [putA_ne (by decide), hT01]
        have hT10 : putA T0 (1 + 1) (T0 (1 + 1) ++ (recVo 5 1 ++ entB (st0.base + 1 + 0) [x5])) 0 = [] := by rw [putA_ne (by decide), hT00]
        have hQ1 : QD D1 3 50000 (putA T0 (1 + 1) (T0 (1 + 1) ++ (recVo 5 1 ++ entB (st0.base + 1 + 0) [x5]))) := hQ1
        generalize putA T0 (1 + 1) (T0 (1 + 1) ++ (recVo 5 1 ++ entB (st0.base + 1 + 0) [x5])) = T1 at hQ1 hT12 hT11 hT10
        refine WL.val rfl rfl rfl rfl (r_neq rfl (ev_t rfl) ev_c) ?_
        refine WL.nil ?_
        refine WX.keep [(0, _), (3, _), (4, _), (25, _)] ⟨rfl, rfl, rfl, rfl, trivial⟩ ?_
        refine WX.next ?_
        refine WC.cond rfl (ev_t rfl) (fun hc7 => ?_) (fun hc7 => ?_)
        · try (exfalso; first | (simp at hc7; done) | (simp only [decide_eq_true_eq, decide_eq_false_iff_not, Bool.not_eq_true', Bool.not_eq_false', Bool.not_eq_true, Bool.not_eq_false] at hc7; omega) | omega)
          all_goals
           try simp only [decide_eq_true_eq, decide_eq_false_iff_not, Bool.not_eq_true', Bool.not_eq_false', Bool.not_eq_true, Bool.not_eq_false, Option.isNone_none, Option.isNone_some, Option.isSome_none, Option.isSome_some, ne_eq, Decidable.not_not] at hc7
           refine WC.seq ?_
           refine WC.region ?_
           refine WL.val rfl rfl rfl rfl (r_assign rfl ev_c) ?_
           refine WL.nil ?_
           refine WX.keep [(2, _)] ⟨rfl, trivial⟩ ?_
           refine WX.next ?_
           refine WC.ret ?_
           refine WX.thenRet ?_
           refine WX.retE1 rfl rfl ?_
           exact ⟨rfl, hU⟩
        · try (exfalso; first | (simp at hc7; done) | (simp only [decide_eq_true_eq, decide_eq_false_iff_not, Bool.not_eq_true', Bool.not_eq_false', Bool.not_eq_true, Bool.not_eq_false] at hc7; omega) | omega)
          all_goals
           try simp only [decide_eq_true_eq, decide_eq_false_iff_not, Bool.not_eq_true', Bool.not_eq_false', Bool.not_eq_true, Bool.not_eq_false, Option.isNone_none, Option.isNone_some, Option.isSome_none, Option.isSome_some, ne_eq, Decidable.not_not] at hc7
           refine WC.skip ?_
           refine WX.next ?_
           refine WC.seq ?_
           refine WC.region ?_
           refine WL.val rfl rfl rfl rfl (r_move rfl (ev_t rfl)) ?_
           refine WL.cons (SO.call (state_ok hW (by simp) (fun x hx => by obtain rfl := List.mem_singleton.1 hx; decide)) rfl body_10 ⟨(ev_t rfl), trivial⟩ rfl rfl rfl rfl ?_)
           rintro v9 w9 ⟨lw, rfl, hDE, hu9⟩
           have hwE := hDE.rd (by simp) (fun x hx => by obtain rfl := List.mem_singleton.1 hx; decide)
           change Ents _ _ lw [x5] at hwE
           obtain ⟨Aw, aw, rfl, haw⟩ := hwE.form
           obtain ⟨qa, hqa⟩ : ∃ q, w8.heap.size = q := ⟨_, rfl⟩
           have hsa := hU.size
           have hFw : ∀ k, New w8 w9 k → qa ≤ k ∧ k < w9.heap.size := fun k hk => by simp only [New] at hk; omega
           generalize New w8 w9 = Fw at hwE hFw
           clear hDE
           have hFda : ∀ k, FW2 k → w.heap.size ≤ k ∧ k < qa := fun k hk => by have := hFd k hk; omega
           have hs9 := hu9.size
           replace hU := hU.trans hu9 (by first | exact (fun _ _ h => h) | exact (fun _ _ h => h.elim) | (intro k hl hk; (try simp only [At, New, Grow, From, No] at hk ⊢); omega) | (intro k hl hk; first | (simp only [At, No] at hk; omega) | (have := hFW k hk; omega) | (have := hFd k hk; omega) | (have := hRd k hk; omega)))
           replace hW := hW.upd hu9 (by first | exact (fun _ _ _ h => h) | (intro k hk hl hS; simp only [At] at hS; have := hFW k hk; omega) | (intro k hk hl hS; simp only [At] at hS; have := hFda k hk; omega))
           replace hx := hx.upd hu9 (by first | exact (fun _ _ _ h => h) | (intro k hk hl hS; simp only [At] at hk hS; omega) | (intro k hk hl hS; simp only [At] at hk; have := hFW k hS; omega))
           replace hxB := hxB.upd hu9 (by first | exact (fun h => h) | (simp only [At]; omega) | (intro h; have := hFW _ h; omega))
           refine WL.cons (SO.alloc rfl rfl rfl rfl (r_alloc rfl zero_31) ?_)
           intro w10 hu10 hB10 hz10
           have hs10 := hu10.size
           replace hU := hU.trans hu10 (by first | exact (fun _ _ h => h) | exact (fun _ _ h => h.elim) | (intro k hl hk; (try simp only [At, New, Grow, From, No] at hk ⊢); omega) | (intro k hl hk; first | (simp only [At, No] at hk; omega) | (have := hFW k hk; omega) | (have := hFd k hk; omega) | (have := hRd k hk; omega)))
           replace hW := hW.upd hu10 (by first | exact (fun _ _ _ h => h) | (intro k hk hl hS; simp only [At] at hS; have := hFW k hk; omega) | (intro k hk hl hS; simp only [At] at hS; have := hFda k hk; omega))
           replace hx := hx.upd hu10 (by first | exact (fun _ _ _ h => h) | (intro k hk hl hS; simp only [At] at hk hS; omega) | (intro k hk hl hS; simp only [At] at hk; have := hFW k hS; omega))
           replace hxB := hxB.upd hu10 (by first | exact (fun h => h) | (simp only [At]; omega) | (intro h; have := hFW _ h; omega))
           replace hwE := hwE.upd hu10 (by first | exact (fun _ _ _ h => h) | (intro k hk hl hS; simp only [At] at hS; have := hFw k hk; omega) | (intro k hk hl hS; have := hFw k hk; have := hRd k hS; omega))
           refine WL.cons (SO.storeAll (us := [_, _, _, _]) rfl (ev_t rfl) (ev_t rfl) size_31 hB10 rfl rfl rfl rfl rfl ?_)
           intro w11 hu11 hB10 hz11
           have hs11 := hu11.size
           replace hU := hU.trans hu11 (by first | exact (fun _ _ h => h) | exact (fun _ _ h => h.elim) | (intro k hl hk; (try simp only [At, New, Grow, From, No] at hk ⊢); omega) | (intro k hl hk; first | (simp only [At, No] at hk; omega) | (have := hFW k hk; omega) | (have := hFd k hk; omega) | (have := hRd k hk; omega)))
           replace hW := hW.upd hu11 (by first | exact (fun _ _ _ h => h) | (intro k hk hl hS; simp only [At] at hS; have := hFW k hk; omega) | (intro k hk hl hS; simp only [At] at hS; have := hFda k hk; omega))
           replace hx := hx.upd hu11 (by first | exact (fun _ _ _ h => h) | (intro k hk hl hS; simp only [At] at hk hS; omega) | (intro k hk hl hS; simp only [At] at hk; have := hFW k hS; omega))
           replace hxB := hxB.upd hu11 (by first | exact (fun h => h) | (simp only [At]; omega) | (intro h; have := hFW _ h; omega))
           replace hwE := hwE.upd hu11 (by first | exact (fun _ _ _ h => h) | (intro k hk hl hS; simp only [At] at hS; have := hFw k hk; omega) | (intro k hk hl hS; have := hFw k hk; have := hRd k hS; omega))
           refine WL.nil ?_
           refine WX.keep [(0, _), (3, _), (6, _)] ⟨rfl, rfl, rfl, trivial⟩ ?_
           have h6 := hB10
           change Blk _ _ (stC ⟨5, 1, 0, [x5]⟩ (.slice Aw [x5].length aw)) _ at h6
           obtain ⟨b6, hb6⟩ : ∃ q, w9.heap.size = q := ⟨_, rfl⟩
           rw [hb6] at h6 ⊢
           obtain ⟨qb, hqb⟩ : ∃ q, w11.heap.size = q := ⟨_, rfl⟩
           have hb6q : qa ≤ b6 ∧ b6 < qb ∧ ∀ k, Fw k → k < qb := ⟨by omega, by omega, fun k hk => by have := hFw k hk; omega⟩
           obtain ⟨R, G, lv, _, hD, _, _, hR, _⟩ := hW
           have hRd : ∀ k, R k → w.heap.size ≤ k ∧ (k < qa ∨ qb ≤ k) ∧ k < w11.heap.size := fun k hk => by have := hR k hk; have := hFda k this.1; omega
           refine WX.next ?_
           refine WC.seq ?_
           refine WC.region ?_
           refine WL.val rfl rfl rfl rfl (r_move rfl (ev_t rfl)) ?_
           refine WL.cons (SO.alloc rfl rfl rfl rfl (r_buildSlice1 (vs := [_, _, _, _, _]) rfl ⟨ev_c, ev_c, ev_c, ev_c, ev_c, trivial⟩ rfl row_22 rfl rfl) ?_)
           intro w12 hu12 hB12 hz12
           have hs12 := hu12.size
           replace hU := hU.trans hu12 (by first | exact (fun _ _ h => h) | exact (fun _ _ h => h.elim) | (intro k hl hk; (try simp only [At, New, Grow, From, No] at hk ⊢); omega) | (intro k hl hk; first | (simp only [At, No] at hk; omega) | (have := hFW k hk; omega) | (have := hFd k hk; omega) | (have := hRd k hk; omega)))
           replace hwE := hwE.upd hu12 (by first | exact (fun _ _ _ h => h) | (intro k hk hl hS; simp only [At] at hS; have := hFw k hk; omega) | (intro k hk hl hS; have := hFw k hk; have := hRd k hS; omega))
           replace h6 := h6.upd hu12 (by first | exact (fun h => h) | (simp only [At]; omega) | (intro h; have := hRd _ h; omega))
           replace hD := hD.upd hu12 (by first | exact (fun _ _ _ h => h) | (intro k hk hl hS; simp only [At] at hS; have := hRd k hk; omega))
           refine WL.cons (SO.convSS rfl (ev_t rfl) elem_22 int_5 hB12 rfl rfl rfl rfl ?_)
           intro w13 z13 hu13 hF13 hz13
           have hs13 := hu13.size
           replace hU := hU.trans hu13 (by first | exact (fun _ _ h => h) | exact (fun _ _ h => h.elim) | (intro k hl hk; (try simp only [At, New, Grow, From, No] at hk ⊢); omega) | (intro k hl hk; first | (simp only [At, No] at hk; omega) | (have := hFW k hk; omega) | (have := hFd k hk; omega) | (have := hRd k hk; omega)))
           replace hwE := hwE.upd hu13 (by first | exact (fun _ _ _ h => h) | (intro k hk hl hS; simp only [At] at hS; have := hFw k hk; omega) | (intro k hk hl hS; have := hFw k hk; have := hRd k hS; omega))
           replace h6 := h6.upd hu13 (by first | exact (fun h => h) | (simp only [At]; omega) | (intro h; have := hRd _ h; omega))
           replace hD := hD.upd hu13 (by first | exact (fun _ _ _ h => h) | (intro k hk hl hS; simp only [At] at hS; have := hRd k hk; omega))
           have hro := Rd.of_heap (F := At _) (n := 5) (sz := 1) hF13 rfl rfl (by omega)
           change Rd w13 (At w11.heap.size) (.slice (some ⟨w11.heap.size, 0, none⟩) 5 5) 5 1 (([111, 116, 104, 101, 114] : List UInt8).map U8) at hro
           have hqw := hQ1.write (i := 0) (by omega) (q := [111, 116, 104, 101, 114]) (by simp)
           refine WL.cons (SO.call (Write_good hD (hQ1.look (i := 0) (by omega)) hro (fun k hk hl h => by simp only [At] at hk; have := hRd k h; omega)) rfl body_11 ⟨(ev_t rfl), ev_c, (ev_t rfl), trivial⟩ rfl rfl rfl rfl ?_)
           rw [hqw.1]
           rintro v9 w14 ⟨rfl, hD9, hu14⟩
           have hq9 := hU.size
           have hRd2 : ∀ k, Grow R w13 w14 k → w.heap.size ≤ k ∧ (k < qa ∨ qb ≤ k) ∧ k < w14.heap.size := fun k hk => by
             have h9 := hu14.size
             rcases hk with h | h
             · have := hRd k h; omega
             · omega
           have hs14 := hu14.size
           replace hU := hU.trans hu14 (by first | exact (fun _ _ h => h) | exact (fun _ _ h => h.elim) | (intro k hl hk; (try simp only [At, New, Grow, From, No] at hk ⊢); omega) | (intro k hl hk; first | (simp only [At, No] at hk; omega) | (have := hFW k hk; omega) | (have := hFd k hk; omega) | (have := hRd k hk; omega)))
           replace hwE := hwE.upd hu14 (by first | exact (fun _ _ _ h => h) | (intro k hk hl hS; simp only [At] at hS; have := hFw k hk; omega) | (intro k hk hl hS; have := hFw k hk; have := hRd k hS; omega))
           replace h6 := h6.upd hu14 (by first | exact (fun h => h) | (simp only [At]; omega) | (intro h; have := hRd _ h; omega))
           generalize Grow R w13 w14 = R2 at hD9 hRd2
           clear hD hRd hro
           have hD := hD9
           have hRd := hRd2
           clear hD9 hRd2
           have hQ2 := hqw.2
           have e2 : putA T1 0 [111, 116, 104, 101, 114] (1 + 1) = p5 := by rw [putA_ne (by decide)]; exact hT12
           have e1 : putA T1 0 [111, 116, 104, 101, 114] 1 = [] := by rw [putA_ne (by decide)]; exact hT11
           have e0 : (putA T1 0 [111, 116, 104, 101, 114] 0).length ≤ 5 := by rw [putA_same]; decide
           generalize putA T1 0 [111, 116, 104, 101, 114] = T2 at hQ2 e2 e1 e0
           have hqs := hQ2.sync (i := 0) (by omega)
           refine WL.nil ?_
           refine WX.keep [(0, _), (3, _), (6, _)] ⟨rfl, rfl, rfl, trivial⟩ ?_
           refine WX.next ?_
           refine WC.seq ?_
           refine WC.region ?_
           refine WL.val rfl rfl rfl rfl (r_move rfl (ev_t rfl)) ?_
           refine WL.cons (SO.call (Sync_good hD (hQ2.look (i := 0) (by omega))) rfl body_12 ⟨(ev_t rfl), ev_c, trivial⟩ rfl rfl rfl rfl ?_)
           rw [hqs.1]
           rintro v9 w15 ⟨rfl, hD9, hu15⟩
           have hq8 := hU.size
           have hRd2 : ∀ k, Grow R2 w14 w15 k → w.heap.size ≤ k ∧ (k < qa ∨ qb ≤ k) ∧ k < w15.heap.size := fun k hk => by
             have h9 := hu15.size
             rcases hk with h | h
             · have := hRd k h; omega
             · omega
           have hs15 := hu15.size
           replace hU := hU.trans hu15 (by first | exact (fun _ _ h => h) | exact (fun _ _ h => h.elim) | (intro k hl hk; (try simp only [At, New, Grow, From, No] at hk ⊢); omega) | (intro k hl hk; first | (simp only [At, No] at hk; omega) | (have := hFW k hk; omega) | (have := hFd k hk; omega) | (have := hRd k hk; omega)))
           replace hwE := hwE.upd hu15 (by first | exact (fun _ _ _ h => h) | (intro k hk hl hS; simp only [At] at hS; have := hFw k hk; omega) | (intro k hk hl hS; have := hFw k hk; have := hRd k hS; omega))
           replace h6 := h6.upd hu15 (by first | exact (fun h => h) | (simp only [At]; omega) | (intro h; have := hRd _ h; omega))
           generalize Grow R2 w14 w15 = R3 at hD9 hRd2
           clear hD hRd
           have hD := hD9
           have hRd := hRd2
           clear hD9 hRd2
           have hQ3 := hqs.2
           refine WL.nil ?_
           refine WX.keep [(0, _), (3, _), (6, _)] ⟨rfl, rfl, rfl, trivial⟩ ?_
           refine WX.next ?_
           refine WC.seq ?_
           refine WC.seq ?_
           refine WC.region ?_
           refine WL.val rfl rfl rfl rfl (r_assign rfl ev_c) ?_
           refine WL.nil ?_
           refine WX.keep [(0, _), (3, _), (6, _), (7, _)] ⟨rfl, rfl, rfl, rfl, trivial⟩ ?_
           refine WX.next ?_
           refine WC.block ?_
           -- loop 1: live [0, 3, 6, 7]
           refine WC.keep [(0, _), (3, _), (6, _), (7, _)] ⟨rfl, rfl, rfl, rfl, trivial⟩ ?_
           refine WC.loop (fun qq E wC => ∃ (j : Nat) (Dj : DS) (Tj : Nat → List UInt8) (Rj : Nat → Prop), j ≤ 10 ∧ qq = 10 - j ∧ Upd No w wC ∧ qb ≤ wC.heap.size ∧ IsD wC Rj d Dj ∧ QD Dj 3 50000 Tj ∧ Tj (1 + 1) = p5 ∧ Tj 1 = [] ∧ (Tj 0).length ≤ 5 + j ∧ (∀ k, Rj k → w.heap.size ≤ k ∧ (k < qa ∨ qb ≤ k) ∧ k < wC.heap.size) ∧   Ents wC Fw (.slice Aw [x5].length aw) [x5] ∧ Blk wC b6 (stC ⟨5, 1, 0, [x5]⟩ (.slice Aw [x5].length aw)) 31 ∧ E = [(0, .slice As l.length cs), (3, .pointer (some ⟨d, 0, none⟩)), (6, .pointer (some ⟨b6, 0, none⟩)), (7, .int .i64 (j : Int))]) (10) ?_ ?_
           · exact ⟨0, _, T2, R3, by omega, by omega, hU, by omega, hD, hQ3, e2, e1, by omega, hRd, hwE, h6, rfl⟩
           · clear hU hD hwE h6 hRd
             rintro qq E wC ⟨j, Dj, Tj, Rj, hj, rfl, hU, hqbC, hD, hQj, t2, t1, t0, hRd, hwE, h6, rfl⟩
             refine WC.seq ?_
             refine WC.seq ?_
             refine WC.region ?_
             refine WL.val rfl rfl rfl rfl (r_move rfl (ev_t rfl)) ?_
             refine WL.val rfl rfl rfl rfl (r_move rfl (ev_t rfl)) ?_
             refine WL.val rfl rfl rfl rfl (r_lenSlice (ts := #[]) rfl (ev_t rfl) elem_41) ?_
             refine WL.val rfl rfl rfl rfl (r_lss rfl (ev_t rfl) (ev_t rfl)) ?_
             refine WL.val rfl rfl rfl rfl (r_move rfl (ev_t rfl)) ?_
             refine WL.cases 38 rfl (fun hb13_4 => ?_) (fun hb13_4 => ?_)
             · try (exfalso; first | (simp at hb13_4; done) | (simp only [decide_eq_true_eq, decide_eq_false_iff_not, Bool.not_eq_true', Bool.not_eq_false', Bool.not_eq_true, Bool.not_eq_false] at hb13_4; omega) | omega)
               all_goals
                try simp only [decide_eq_true_eq, decide_eq_false_iff_not, Bool.not_eq_true', Bool.not_eq_false', Bool.not_eq_true, Bool.not_eq_false, Option.isNone_none, Option.isNone_some, Option.isSome_none, Option.isSome_some, ne_eq, Decidable.not_not] at hb13_4
                refine WL.val rfl rfl rfl rfl (r_move rfl (ev_t rfl)) ?_
                refine WL.val rfl rfl rfl rfl (r_lss rfl (ev_t rfl) ev_c) ?_
                refine WL.val rfl rfl rfl rfl (r_pickT rfl (ev_t rfl) (ev_t rfl)) ?_
                refine WL.nil ?_
                refine WX.keep [(0, _), (3, _), (6, _), (7, _), (41, _)] ⟨rfl, rfl, rfl, rfl, rfl, trivial⟩ ?_
                refine WX.next ?_
                refine WC.cond rfl (ev_t rfl) (fun hc13 => ?_) (fun hc13 => ?_)
                · try (exfalso; first | (simp at hc13; done) | (simp only [decide_eq_true_eq, decide_eq_false_iff_not, Bool.not_eq_true', Bool.not_eq_false', Bool.not_eq_true, Bool.not_eq_false] at hc13; omega) | omega)
                  all_goals
                   try simp only [decide_eq_true_eq, decide_eq_false_iff_not, Bool.not_eq_true', Bool.not_eq_false', Bool.not_eq_true, Bool.not_eq_false, Option.isNone_none, Option.isNone_some, Option.isSome_none, Option.isSome_some, ne_eq, Decidable.not_not] at hc13
                   have hj2 : j < l.length ∧ j < 10 := by constructor <;> omega
                   obtain ⟨b0, off, rfl, _⟩ := hs.open (by omega)
                   have hgj : l[j]? = some l[j] := List.getElem?_eq_getElem hj2.1
                   obtain ⟨h8, c, hc⟩ := hA l[j] (List.getElem_mem hj2.1)
                   have hcell := flat8_get (fun a ha => (hA a ha).1) hgj hc
                   refine WC.skip ?_
                   refine WX.next ?_
                   refine WC.seq ?_
                   refine WC.block ?_
                   refine WC.seq ?_
                   refine WC.region ?_
                   refine WL.val rfl rfl rfl rfl (r_move rfl (ev_t rfl)) ?_
                   refine WL.val rfl rfl rfl rfl (r_move rfl (ev_t rfl)) ?_
                   refine WL.val rfl rfl rfl rfl (r_move rfl (ev_t rfl)) ?_
                   refine WL.val rfl rfl rfl rfl (r_indexAddr rfl (ev_t rfl) (ev_t rfl) elem_41 size_46 (by omega) (by omega)) ?_
                   first | refine WL.val rfl rfl rfl rfl (r_field0 rfl (ev_t rfl) fld_46_3) ?_ | refine WL.val rfl rfl rfl rfl (r_fieldAt rfl (ev_t rfl) fld_46_3) ?_
                   refine WL.val rfl rfl rfl rfl (r_load rfl (ev_t rfl) flat_5 ((hs.upd hU (fun _ _ _ h => h)).cell (j := j * 8 + 3) (u := U8 c) (by omega) hcell)) ?_
                   refine WL.cons (SO.alloc rfl rfl rfl rfl (r_buildSlice1 (vs := [_]) rfl ⟨(ev_t rfl), trivial⟩ rfl row_22 rfl rfl) ?_)
                   intro w16 hu16 hB16 hz16
                   have hs16 := hu16.size
                   replace hU := hU.trans hu16 (by first | exact (fun _ _ h => h) | exact (fun _ _ h => h.elim) | (intro k hl hk; (try simp only [At, New, Grow, From, No] at hk ⊢); omega) | (intro k hl hk; first | (simp only [At, No] at hk; omega) | (have := hFW k hk; omega) | (have := hFd k hk; omega) | (have := hRd k hk; omega)))
                   replace hD := hD.upd hu16 (by first | exact (fun _ _ _ h => h) | (intro k hk hl hS; simp only [At] at hS; have := hRd k hk; omega))
                   replace hwE := hwE.upd hu16 (by first | exact (fun _ _ _ h => h) | (intro k hk hl hS; simp only [At] at hS; have := hFw k hk; omega) | (intro k hk hl hS; have := hFw k hk; have := hRd k hS; omega))
                   replace h6 := h6.upd hu16 (by first | exact (fun h => h) | (simp only [At]; omega) | (intro h; have := hRd _ h; omega))
                   have hb1 := Rd.of_blk (F := At _) (n := 1) (sz := 1) hB16 rfl rfl (by omega)
                   change Rd _ _ _ 1 1 ([c].map U8) at hb1
                   have hqa9 := hQj.append (i := 0) (by omega) (q := [c]) (by simp only [List.length_cons, List.length_nil]; omega)
                   refine WL.cons (SO.call (Append_good hD (hQj.look (i := 0) (by omega)) hb1 (fun k hk hl h => by simp only [At] at hk; have := hRd k h; omega)) rfl body_13 ⟨(ev_t rfl), ev_c, (ev_t rfl), trivial⟩ rfl rfl rfl rfl ?_)
                   rw [hqa9.1]
                   rintro v9 w17 ⟨rfl, hD9, hu17⟩
                   have hq9 := hU.size
                   have hRd2 : ∀ k, Grow Rj w16 w17 k → w.heap.size ≤ k ∧ (k < qa ∨ qb ≤ k) ∧ k < w17.heap.size := fun k hk => by
                     have h9 := hu17.size
                     rcases hk with h | h
                     · have := hRd k h; omega
                     · omega
                   have hs17 := hu17.size
                   replace hU := hU.trans hu17 (by first | exact (fun _ _ h => h) | exact (fun _ _ h => h.elim) | (intro k hl hk; (try simp only [At, New, Grow, From, No] at hk ⊢); omega) | (intro k hl hk; first | (simp only [At, No] at hk; omega) | (have := hFW k hk; omega) | (have := hFd k hk; omega) | (have := hRd k hk; omega)))
                   replace hwE := hwE.upd hu17 (by first | exact (fun _ _ _ h => h) | (intro k hk hl hS; simp only [At] at hS; have := hFw k hk; omega) | (intro k hk hl hS; have := hFw k hk; have := hRd k hS; omega))
                   replace h6 := h6.upd hu17 (by first | exact (fun h => h) | (simp only [At]; omega) | (intro h; have := hRd _ h; omega))
                   generalize Grow Rj w16 w17 = R4 at hD9 hRd2
                   clear hD hRd hb1
                   have hD := hD9
                   have hRd := hRd2
                   clear hD9 hRd2
                   have hQ4 := hqa9.2
                   have f2 : putA Tj 0 (Tj 0 ++ [c]) (1 + 1) = p5 := by rw [putA_ne (by decide)]; exact t2
                   have f1 : putA Tj 0 (Tj 0 ++ [c]) 1 = [] := by rw [putA_ne (by decide)]; exact t1
                   have f0 : (putA Tj 0 (Tj 0 ++ [c]) 0).length ≤ 5 + (j + 1) := by rw [putA_same, List.length_append, List.length_cons, List.length_nil]; omega
                   generalize putA Tj 0 (Tj 0 ++ [c]) = T4 at hQ4 f2 f1 f0
                   refine WL.nil ?_
                   refine WX.keep [(0, _), (3, _), (6, _), (7, _)] ⟨rfl, rfl, rfl, rfl, trivial⟩ ?_
                   refine WX.next ?_
                   refine WC.seq ?_
                   refine WC.region ?_
                   refine WL.val rfl rfl rfl rfl (r_move rfl (ev_t rfl)) ?_
                   refine WL.cons (SO.call (Open_ok (a := 1) (n := 5) (A := A5) (S := S5) (N := N5) hD hQ4 (by omega) (by omega) (by omega) f1 rfl rfl rfl (fun i hi => by rw [f2]; exact step5 i hi) (by rw [f2, p5_len]; rfl) (by rw [f2, p5_len]; omega) (.inr (by decide))) rfl body_14 ⟨(ev_t rfl), ev_c, trivial⟩ rfl rfl rfl rfl ?_)
                   rintro v9 w18 ⟨p2, turn, s2, D5, T5, rfl, hW2, hQ5, hu18, hp2, hcs2⟩
                   obtain ⟨hs2, hT5⟩ : s2 = ⟨5, 1, 0, [x5]⟩ ∧ T5 = T4 := by
                     rcases hcs2 with h | h
                     · exact absurd h.1 (by decide)
                     · exact ⟨h.2.2.1, h.2.2.2⟩
                   subst hs2 hT5
                   have hq8 := hU.size
                   have hRd2 : ∀ k, Grow R4 w17 w18 k → w.heap.size ≤ k ∧ (k < qa ∨ qb ≤ k) ∧ k < w18.heap.size := fun k hk => by
                     have h9 := hu18.size
                     rcases hk with h | h
                     · have := hRd k h; omega
                     · omega
                   have hs18 := hu18.size
                   replace hU := hU.trans hu18 (by first | exact (fun _ _ h => h) | exact (fun _ _ h => h.elim) | (intro k hl hk; (try simp only [At, New, Grow, From, No] at hk ⊢); omega) | (intro k hl hk; first | (simp only [At, No] at hk; omega) | (have := hFW k hk; omega) | (have := hFd k hk; omega) | (have := hRd k hk; omega)))
                   replace hwE := hwE.upd hu18 (by first | exact (fun _ _ _ h => h) | (intro k hk hl hS; simp only [At] at hS; have := hFw k hk; omega) | (intro k hk hl hS; have := hFw k hk; have := hRd k hS; omega))
                   replace h6 := h6.upd hu18 (by first | exact (fun h => h) | (simp only [At]; omega) | (intro h; have := hRd _ h; omega))
                   generalize Grow R4 w17 w18 = R5 at hW2 hRd2
                   clear hD hRd
                   have hRd := hRd2
                   refine WL.val rfl rfl rfl rfl (r_move rfl (ev_t rfl)) ?_
                   refine WL.val rfl rfl rfl rfl (r_extract rfl (ev_t rfl) rfl) ?_
                   refine WL.val rfl rfl rfl rfl (r_extract rfl (ev_t rfl) rfl) ?_
                   refine WL.val rfl rfl rfl rfl (r_assign rfl (ev_t rfl)) ?_
                   refine WL.val rfl rfl rfl rfl (r_assign rfl (ev_t rfl)) ?_
                   refine WL.nil ?_
                   refine WX.keep [(0, _), (3, _), (6, _), (7, _), (8, _), (9, _)] ⟨rfl, rfl, rfl, rfl, rfl, rfl, trivial⟩ ?_
                   refine WX.next ?_
                   refine WC.seq ?_
                   refine WC.draws' (fun u0_ u1_ => Upd No u0_ u1_) (fun j => [0, 0, 0, 0, 1, 0, 2, 0, 0].getD j 0) (.calm 0 (.calm 1 (.calm 2 (.calm 3 (.held 5 (.one 4 (.one 6 (.calm 7 (.calm 8 (.done)))))))))) mixed (by kernel_rfl) (by repeat (first | with_reducible exact Deaf.body | with_reducible apply Deaf.then | with_reducible apply Deaf.block)) ?_
                   intro w19 hu19
                   have hz19 := congrArg Array.size hu19.2.2.2
                   replace hu19 := Upd.of_draw hu19
                   have hs19 := hu19.size
                   replace hU := hU.trans hu19 (by first | exact (fun _ _ h => h) | exact (fun _ _ h => h.elim) | (intro k hl hk; (try simp only [At, New, Grow, From, No] at hk ⊢); omega) | (intro k hl hk; first | (simp only [At, No] at hk; omega) | (have := hFW k hk; omega) | (have := hFd k hk; omega) | (have := hRd k hk; omega)))
                   replace hwE := hwE.upd hu19 (by first | exact (fun _ _ _ h => h) | (intro k hk hl hS; simp only [At] at hS; have := hFw k hk; omega) | (intro k hk hl hS; have := hFw k hk; have := hRd k hS; omega))
                   replace h6 := h6.upd hu19 (by first | exact (fun h => h) | (simp only [At]; omega) | (intro h; have := hRd _ h; omega))
                   replace hW2 := hW2.upd hu19 (fun _ _ _ h => h)
                   have hS17 := Upd.refl No w19
                   refine WN.calm _ rfl rfl rfl rfl rfl (fun _ => r_move rfl (ev_t rfl)) ?_
                   refine WN.calm _ rfl rfl rfl rfl rfl (fun _ => r_neq rfl (ev_t rfl) ev_c) ?_
                   refine WN.calm _ rfl rfl rfl rfl rfl (fun _ => r_move rfl (ev_t rfl)) ?_
                   refine WN.cases 59 rfl (fun hb17_2 => ?_) (fun hb17_2 => ?_)
                   · try (exfalso; first | (simp at hb17_2; done) | (simp only [decide_eq_true_eq, decide_eq_false_iff_not, Bool.not_eq_true', Bool.not_eq_false', Bool.not_eq_true, Bool.not_eq_false] at hb17_2; omega) | omega)
                     all_goals
                      try simp only [decide_eq_true_eq, decide_eq_false_iff_not, Bool.not_eq_true', Bool.not_eq_false', Bool.not_eq_true, Bool.not_eq_false, Option.isNone_none, Option.isNone_some, Option.isSome_none, Option.isSome_some, ne_eq, Decidable.not_not] at hb17_2
                      refine WN.skip _ rfl rfl rfl rfl ?_
                      refine WN.heldSkip _ rfl rfl rfl rfl hS17 ?_
                      refine WN.step _ rfl (SO.skip rfl rfl rfl ?_)
                      refine ⟨hS17, ?_⟩
                      refine WN.step _ rfl (SO.skip rfl rfl rfl ?_)
                      refine ⟨trivial, ?_⟩
                      refine WN.skip _ rfl rfl rfl rfl ?_
                      refine WN.calm _ rfl rfl rfl rfl rfl (fun _ => r_pickT rfl (ev_t rfl) ev_c) ?_
                      refine WN.done ?_
                      refine WX.keep [(0, _), (3, _), (6, _), (7, _), (65, _)] ⟨rfl, rfl, rfl, rfl, rfl, trivial⟩ ?_
                      refine WX.next ?_
                      refine WC.cond_true rfl (ev_t rfl) ?_
                      refine WC.seq ?_
                      refine WC.region ?_
                      refine WL.val rfl rfl rfl rfl (r_assign rfl ev_c) ?_
                      refine WL.nil ?_
                      refine WX.keep [(2, _)] ⟨rfl, trivial⟩ ?_
                      refine WX.next ?_
                      refine WC.ret ?_
                      refine WX.blockRet ?_
                      refine WX.thenRet ?_
                      refine WX.thenRet ?_
                      refine WX.blockRet ?_
                      refine WX.thenRet ?_
                      refine WX.retE1 rfl rfl ?_
                      exact ⟨rfl, hU⟩
                   · try (exfalso; first | (simp at hb17_2; done) | (simp only [decide_eq_true_eq, decide_eq_false_iff_not, Bool.not_eq_true', Bool.not_eq_false', Bool.not_eq_true, Bool.not_eq_false] at hb17_2; omega) | omega)
                     all_goals
                      try simp only [decide_eq_true_eq, decide_eq_false_iff_not, Bool.not_eq_true', Bool.not_eq_false', Bool.not_eq_true, Bool.not_eq_false, Option.isNone_none, Option.isNone_some, Option.isSome_none, Option.isSome_some, ne_eq, Decidable.not_not] at hb17_2
                      refine WN.calm _ rfl rfl rfl rfl rfl (fun _ => r_move rfl (ev_t rfl)) ?_
                      refine WN.held _ rfl rfl rfl rfl rfl hS17 (fun w' hS => r_loadAgg (vs := [_, _, _, _]) rfl (ev_t rfl) agg_31 size_31 (Blk.cellsL (h6.upd hS (fun h => h)))) ?_
                      refine WN.step _ rfl (SO.call (state_ok hW2 (by simp) (fun x hx => by obtain rfl := List.mem_singleton.1 hx; decide)) rfl body_10 ⟨(ev_t rfl), trivial⟩ rfl rfl rfl rfl ?_)
                      rintro v9 w20 ⟨l3, rfl, hD3, hu20⟩
                      have hE3 := hD3.rd (by simp) (fun x hx => by obtain rfl := List.mem_singleton.1 hx; decide)
                      have hs20 := hu20.size
                      replace hS17 := Upd.transA hS17 hu20
                      replace hU := hU.trans hu20 (by first | exact (fun _ _ h => h) | exact (fun _ _ h => h.elim) | (intro k hl hk; (try simp only [At, New, Grow, From, No] at hk ⊢); omega) | (intro k hl hk; first | (simp only [At, No] at hk; omega) | (have := hFW k hk; omega) | (have := hFd k hk; omega) | (have := hRd k hk; omega)))
                      replace hwE := hwE.upd hu20 (by first | exact (fun _ _ _ h => h) | (intro k hk hl hS; simp only [At] at hS; have := hFw k hk; omega) | (intro k hk hl hS; have := hFw k hk; have := hRd k hS; omega))
                      replace h6 := h6.upd hu20 (by first | exact (fun h => h) | (simp only [At]; omega) | (intro h; have := hRd _ h; omega))
                      replace hW2 := hW2.upd hu20 (fun _ _ _ h => h)
                      refine ⟨hS17, ?_⟩
                      refine WN.step _ rfl (SO.call (Same14_ok (s := ⟨5, 1, 0, [x5]⟩) hE3 hwE) rfl body_9 ⟨(ev_t rfl), (ev_t rfl), trivial⟩ rfl rfl rfl rfl ?_)
                      rintro v9 w21 ⟨rfl, hu21⟩
                      have hs21 := hu21.size
                      try replace hS17 := Upd.transA hS17 hu21
                      replace hU := hU.trans hu21 (by first | exact (fun _ _ h => h) | exact (fun _ _ h => h.elim) | (intro k hl hk; (try simp only [At, New, Grow, From, No] at hk ⊢); omega) | (intro k hl hk; first | (simp only [At, No] at hk; omega) | (have := hFW k hk; omega) | (have := hFd k hk; omega) | (have := hRd k hk; omega)))
                      replace hwE := hwE.upd hu21 (by first | exact (fun _ _ _ h => h) | (intro k hk hl hS; simp only [At] at hS; have := hFw k hk; omega) | (intro k hk hl hS; have := hFw k hk; have := hRd k hS; omega))
                      replace h6 := h6.upd hu21 (by first | exact (fun h => h) | (simp only [At]; omega) | (intro h; have := hRd _ h; omega))
                      replace hW2 := hW2.upd hu21 (fun _ _ _ h => h)
                      replace hE3 := hE3.upd hu21 (fun _ _ _ h => h)
                      refine ⟨trivial, ?_⟩
                      refine WN.calm _ rfl rfl rfl rfl rfl (fun _ => r_not rfl (ev_t rfl)) ?_
                      refine WN.calm _ rfl rfl rfl rfl rfl (fun _ => r_pickF rfl (ev_t rfl) (ev_t rfl)) ?_
                      refine WN.done ?_
                      refine WX.keep [(0, _), (3, _), (6, _), (7, _), (65, _)] ⟨rfl, rfl, rfl, rfl, rfl, trivial⟩ ?_
                      refine WX.next ?_
                      refine WC.cond rfl (ev_t rfl) (fun hc17 => ?_) (fun hc17 => ?_)
                      · try (exfalso; first | (simp at hc17; done) | (simp only [decide_eq_true_eq, decide_eq_false_iff_not, Bool.not_eq_true', Bool.not_eq_false', Bool.not_eq_true, Bool.not_eq_false] at hc17; omega) | omega)
                        all_goals
                         try simp only [decide_eq_true_eq, decide_eq_false_iff_not, Bool.not_eq_true', Bool.not_eq_false', Bool.not_eq_true, Bool.not_eq_false, Option.isNone_none, Option.isNone_some, Option.isSome_none, Option.isSome_some, ne_eq, Decidable.not_not] at hc17
                         refine WC.seq ?_
                         refine WC.region ?_
                         refine WL.val rfl rfl rfl rfl (r_assign rfl ev_c) ?_
                         refine WL.nil ?_
                         refine WX.keep [(2, _)] ⟨rfl, trivial⟩ ?_
                         refine WX.next ?_
                         refine WC.ret ?_
                         refine WX.blockRet ?_
                         refine WX.thenRet ?_
                         refine WX.thenRet ?_
                         refine WX.blockRet ?_
                         refine WX.thenRet ?_
                         refine WX.retE1 rfl rfl ?_
                         exact ⟨rfl, hU⟩
                      · try (exfalso; first | (simp at hc17; done) | (simp only [decide_eq_true_eq, decide_eq_false_iff_not, Bool.not_eq_true', Bool.not_eq_false', Bool.not_eq_true, Bool.not_eq_false] at hc17; omega) | omega)
                        all_goals
                         try simp only [decide_eq_true_eq, decide_eq_false_iff_not, Bool.not_eq_true', Bool.not_eq_false', Bool.not_eq_true, Bool.not_eq_false, Option.isNone_none, Option.isNone_some, Option.isSome_none, Option.isSome_some, ne_eq, Decidable.not_not] at hc17
                         refine WC.skip ?_
                         refine WX.blockNormal ?_
                         refine WX.next ?_
                         refine WC.region ?_
                         refine WL.val rfl rfl rfl rfl (r_move rfl (ev_t rfl)) ?_
                         first | refine WL.val rfl rfl rfl rfl (r_addN rfl (ev_t rfl) ev_c (by simp only [inK]; omega)) ?_ | refine WL.val rfl rfl rfl rfl (r_add rfl (ev_t rfl) ev_c) ?_
                         refine WL.val rfl rfl rfl rfl (r_assign rfl (ev_t rfl)) ?_
                         refine WL.nil ?_
                         refine WX.keep [(0, _), (3, _), (6, _), (7, _)] ⟨rfl, rfl, rfl, rfl, trivial⟩ ?_
                         refine WX.meet [(0, _), (3, _), (6, _), (7, _)] ⟨rfl, rfl, rfl, rfl, trivial⟩ ?_
                         obtain ⟨R6, G6, lv6, _, hD6, _, _, hR6, _⟩ := hW2
                         have hq7 := hU.size
                         exact ⟨10 - (j + 1), by omega, j + 1, D5, _, R6, by omega, rfl, hU, by omega, hD6, hQ5, f2, f1, f0, fun k hk => by have := hR6 k hk; have := hRd k this.1; omega, hwE, h6, rfl⟩
                · try (exfalso; first | (simp at hc13; done) | (simp only [decide_eq_true_eq, decide_eq_false_iff_not, Bool.not_eq_true', Bool.not_eq_false', Bool.not_eq_true, Bool.not_eq_false] at hc13; omega) | omega)
                  all_goals
                   try simp only [decide_eq_true_eq, decide_eq_false_iff_not, Bool.not_eq_true', Bool.not_eq_false', Bool.not_eq_true, Bool.not_eq_false, Option.isNone_none, Option.isNone_some, Option.isSome_none, Option.isSome_some, ne_eq, Decidable.not_not] at hc13
                   refine WC.exit ?_
                   refine WX.thenExit ?_
                   refine WX.thenExit ?_
                   refine WX.blockHere ?_
                   refine WX.next ?_
                   refine WC.seq ?_
                   refine WC.region ?_
                   refine WL.val rfl rfl rfl rfl (r_assign rfl ev_c) ?_
                   refine WL.nil ?_
                   refine WX.keep [(2, _)] ⟨rfl, trivial⟩ ?_
                   refine WX.next ?_
                   refine WC.ret ?_
                   refine WX.retE1 rfl rfl ?_
                   exact ⟨rfl, hU⟩
             · try (exfalso; first | (simp at hb13_4; done) | (simp only [decide_eq_true_eq, decide_eq_false_iff_not, Bool.not_eq_true', Bool.not_eq_false', Bool.not_eq_true, Bool.not_eq_false] at hb13_4; omega) | omega)
               all_goals
                try simp only [decide_eq_true_eq, decide_eq_false_iff_not, Bool.not_eq_true', Bool.not_eq_false', Bool.not_eq_true, Bool.not_eq_false, Option.isNone_none, Option.isNone_some, Option.isSome_none, Option.isSome_some, ne_eq, Decidable.not_not] at hb13_4
                refine WL.skip rfl rfl rfl ?_
                refine WL.skip rfl rfl rfl ?_
                refine WL.val rfl rfl rfl rfl (r_pickF rfl (ev_t rfl) ev_c) ?_
                refine WL.nil ?_
                refine WX.keep [(0, _), (3, _), (6, _), (7, _), (41, _)] ⟨rfl, rfl, rfl, rfl, rfl, trivial⟩ ?_
                refine WX.next ?_
                refine WC.cond_false rfl (ev_t rfl) ?_
                refine WC.exit ?_
                refine WX.thenExit ?_
                refine WX.thenExit ?_
                refine WX.blockHere ?_
                refine WX.next ?_
                refine WC.seq ?_
                refine WC.region ?_
                refine WL.val rfl rfl rfl rfl (r_assign rfl ev_c) ?_
                refine WL.nil ?_
                refine WX.keep [(2, _)] ⟨rfl, trivial⟩ ?_
                refine WX.next ?_
                refine WC.ret ?_
                refine WX.retE1 rfl rfl ?_
                exact ⟨rfl, hU⟩
end Go.Proofs.Ytnjfhmlfpfkllaa

/-
  law 14: calls, opened.
-/
namespace Go.Proofs.Ytnjfhmlfpfkllaa
open Go Go.ChangeShapes Go.WideShapes Go.ChangeAt Go.RowKit Go.Deep
set_option linter.unusedSimpArgs false
set_option linter.unusedVariables false

theorem cellsAct14 : Try.prog.cellsOf 46 = 8 := by kernel_rfl
theorem bytesAct14 : 0 < Try.prog.bytesOf 46 := by decide +kernel
theorem rep_act14 {W : World} {f : Nat} {cs : List Value} (h : Rep Try.prog W f 46 cs) : ∃ a : List Value, cs = id a ∧ (a.length = 8 ∧ ∃ c : UInt8, a[3]? = some (U8 c)) := by
  obtain ⟨g, rfl, hl, hf⟩ := h.struct Try.underlying46
  obtain ⟨n4, e4, k4⟩ := Rep.int (hf 3 _ rfl) Try.underlying5
  have hl8 := hl.trans cellsAct14
  refine ⟨cs, rfl, hl8, UInt8.ofNat n4.toNat, ?_⟩
  simp only [inK] at k4
  have h3 : (cs.drop 3).take 1 = [.int .u8 n4] := e4
  have h9 : ((cs.drop 3).take 1)[0]? = some (.int .u8 n4) := by rw [h3]; rfl
  rw [List.getElem?_take, if_pos (by decide), List.getElem?_drop] at h9
  rw [show 3 = 3 + 0 from rfl, h9]
  simp only [U8, UInt8.toNat_ofNat']
  rw [show ((n4.toNat % 2 ^ 8 : Nat) : Int) = n4 by omega]
theorem rep_acts14 {W : World} {v : Value} (h : ∃ f, Rep Try.prog W f 41 [v]) : ∃ l : List (List Value), Rd W (fun k => k < W.heap.size) v l.length 8 (l.flatMap id) ∧ ∀ a ∈ l, a.length = 8 ∧ ∃ c : UInt8, a[3]? = some (U8 c) := by
  obtain ⟨f, h⟩ := h
  obtain ⟨v', l, g, _, h1, _, h3, h4⟩ := h.list (id : List Value → List Value) (fun _ a => a.length = 8 ∧ ∃ c : UInt8, a[3]? = some (U8 c)) Try.underlying41 (by rw [cellsAct14]; decide) bytesAct14 (fun g cs _ hr => rep_act14 hr)
  simp only [List.cons.injEq, and_true] at h1
  subst h1
  rw [cellsAct14] at h3
  exact ⟨l, h3, h4⟩
end Go.Proofs.Ytnjfhmlfpfkllaa
