/-
  Law 05: named; the reference's SameType.
-/
import Derived.Test.YtomkdhkkggbioaaGreatDoorPrm
import Derived.Test.YtomkdhkkggbioaaGreatDoorPrN
namespace Go.Proofs.YtomkdhkkggbioaaGreatDoor
open Go
set_option linter.unusedSimpArgs false
set_option linter.unusedVariables false

set_option maxHeartbeats 4000000 in
theorem named_ok {F : Nat → Prop} : ∀ (f : Nat) (w : World) (x : List Value) (t : Tr), smallF f t = true → TR w F x t → Ret Tryz.prog 21 #[.agg x.toArray] w fun v w' => v = .bool (namedF f t) ∧ Upd No w w'
  | 0, w, x, t, hs, ht => by simp [smallF] at hs
  | f + 1, w, x, t, hs, ht => by
    cases ht with
    | mk hr hl hv hn hk =>
      rename_i n v ks kv xs
      obtain ⟨A, c, rfl, hc⟩ := hr.slice_form
      have hxl := kids_len hl hk
      have hm := hr.le
      simp only [smallF, Bool.and_eq_true, List.all_eq_true] at hs
      have hks := hs.2
      clear hs
      refine enterRet (vs := [_]) (N := 62) Tryz.func21 rfl rfl rfl ?_
      have hU := Upd.refl No w
      refine WC.keep [(0, _)] ⟨rfl, trivial⟩ ?_
      refine WC.seq ?_
      refine WC.region ?_
      refine WL.cons (SO.alloc rfl rfl rfl rfl (r_boxAgg rfl (ev_t rfl)) ?_)
      intro w1 hu1 hB1 hz1
      have hs1 := hu1.size
      replace hU := hU.transA hu1
      refine WL.val rfl rfl rfl rfl (r_assign rfl ev_c) ?_
      refine WL.nil ?_
      refine WX.keep [(1, _)] ⟨rfl, trivial⟩ ?_
      have hb := hB1
      change Blk _ _ #[Sv n, .int .i64 v, .slice A ks.length c] _ at hb
      refine WX.next ?_
      refine WC.seq ?_
      refine WC.seq ?_
      refine WC.region ?_
      first | refine WL.val rfl rfl rfl rfl (r_field0 rfl (ev_t rfl) fld_24_0) ?_ | refine WL.val rfl rfl rfl rfl (r_fieldAt rfl (ev_t rfl) fld_24_0) ?_
      refine WL.val rfl rfl rfl rfl (r_load rfl (ev_t rfl) flat_9 (Blk.cell hb rfl)) ?_
      refine WL.val rfl rfl rfl rfl (r_eqlStrL rfl (ev_t rfl) ev_c) ?_
      refine WL.nil ?_
      refine WX.keep [(1, _), (7, _)] ⟨rfl, rfl, trivial⟩ ?_
      refine WX.next ?_
      refine WC.cond rfl (ev_t rfl) (fun hc1 => ?_) (fun hc1 => ?_)
      · try (exfalso; first | (simp at hc1; done) | (simp only [decide_eq_true_eq, decide_eq_false_iff_not, Bool.not_eq_true', Bool.not_eq_false', Bool.not_eq_true, Bool.not_eq_false] at hc1; omega) | omega)
        all_goals
         try simp only [decide_eq_true_eq, decide_eq_false_iff_not, Bool.not_eq_true', Bool.not_eq_false', Bool.not_eq_true, Bool.not_eq_false, Option.isNone_none, Option.isNone_some, Option.isSome_none, Option.isSome_some, ne_eq, Decidable.not_not] at hc1
         refine WC.seq ?_
         refine WC.region ?_
         first | refine WL.val rfl rfl rfl rfl (r_field0 rfl (ev_t rfl) fld_24_1) ?_ | refine WL.val rfl rfl rfl rfl (r_fieldAt rfl (ev_t rfl) fld_24_1) ?_
         refine WL.val rfl rfl rfl rfl (r_load rfl (ev_t rfl) flat_3 (Blk.cell hb rfl)) ?_
         refine WL.val rfl rfl rfl rfl (r_geq rfl (ev_t rfl) ev_c) ?_
         refine WL.val rfl rfl rfl rfl (r_move rfl (ev_t rfl)) ?_
         refine WL.cases 11 rfl (fun hb2_3 => ?_) (fun hb2_3 => ?_)
         · try (exfalso; first | (simp at hb2_3; done) | (simp only [decide_eq_true_eq, decide_eq_false_iff_not, Bool.not_eq_true', Bool.not_eq_false', Bool.not_eq_true, Bool.not_eq_false] at hb2_3; omega) | omega)
           all_goals
            try simp only [decide_eq_true_eq, decide_eq_false_iff_not, Bool.not_eq_true', Bool.not_eq_false', Bool.not_eq_true, Bool.not_eq_false, Option.isNone_none, Option.isNone_some, Option.isSome_none, Option.isSome_some, ne_eq, Decidable.not_not] at hb2_3
            first | refine WL.val rfl rfl rfl rfl (r_field0 rfl (ev_t rfl) fld_24_1) ?_ | refine WL.val rfl rfl rfl rfl (r_fieldAt rfl (ev_t rfl) fld_24_1) ?_
            refine WL.val rfl rfl rfl rfl (r_load rfl (ev_t rfl) flat_3 (Blk.cell hb rfl)) ?_
            refine WL.val rfl rfl rfl rfl (r_leq rfl (ev_t rfl) ev_c) ?_
            refine WL.val rfl rfl rfl rfl (r_pickT rfl (ev_t rfl) (ev_t rfl)) ?_
            refine WL.val rfl rfl rfl rfl (r_assign rfl (ev_t rfl)) ?_
            refine WL.nil ?_
            refine WX.keep [(2, _)] ⟨rfl, trivial⟩ ?_
            refine WX.next ?_
            refine WC.ret ?_
            refine WX.thenRet ?_
            refine WX.retE1 rfl rfl ?_
            refine ⟨?_, hU⟩
            have h0 : n = [] := by simpa using hc1
            subst h0
            simp only [namedF, okA, if_true, decide_true, Bool.true_or, Bool.and_true]
            congr 1
            simp
            omega
         · try (exfalso; first | (simp at hb2_3; done) | (simp only [decide_eq_true_eq, decide_eq_false_iff_not, Bool.not_eq_true', Bool.not_eq_false', Bool.not_eq_true, Bool.not_eq_false] at hb2_3; omega) | omega)
           all_goals
            try simp only [decide_eq_true_eq, decide_eq_false_iff_not, Bool.not_eq_true', Bool.not_eq_false', Bool.not_eq_true, Bool.not_eq_false, Option.isNone_none, Option.isNone_some, Option.isSome_none, Option.isSome_some, ne_eq, Decidable.not_not] at hb2_3
            refine WL.skip rfl rfl rfl ?_
            refine WL.skip rfl rfl rfl ?_
            refine WL.skip rfl rfl rfl ?_
            refine WL.val rfl rfl rfl rfl (r_pickF rfl (ev_t rfl) ev_c) ?_
            refine WL.val rfl rfl rfl rfl (r_assign rfl (ev_t rfl)) ?_
            refine WL.nil ?_
            refine WX.keep [(2, _)] ⟨rfl, trivial⟩ ?_
            refine WX.next ?_
            refine WC.ret ?_
            refine WX.thenRet ?_
            refine WX.retE1 rfl rfl ?_
            refine ⟨?_, hU⟩
            have h0 : n = [] := by simpa using hc1
            subst h0
            simp only [namedF, okA, if_true, decide_true, Bool.true_or, Bool.and_true]
            congr 1
            simp
            omega
      · try (exfalso; first | (simp at hc1; done) | (simp only [decide_eq_true_eq, decide_eq_false_iff_not, Bool.not_eq_true', Bool.not_eq_false', Bool.not_eq_true, Bool.not_eq_false] at hc1; omega) | omega)
        all_goals
         try simp only [decide_eq_true_eq, decide_eq_false_iff_not, Bool.not_eq_true', Bool.not_eq_false', Bool.not_eq_true, Bool.not_eq_false, Option.isNone_none, Option.isNone_some, Option.isSome_none, Option.isSome_some, ne_eq, Decidable.not_not] at hc1
         refine WC.skip ?_
         refine WX.next ?_
         refine WC.seq ?_
         refine WC.seq ?_
         refine WC.region ?_
         have h0 : n ≠ [] := by simpa using hc1
         first | refine WL.val rfl rfl rfl rfl (r_field0 rfl (ev_t rfl) fld_24_1) ?_ | refine WL.val rfl rfl rfl rfl (r_fieldAt rfl (ev_t rfl) fld_24_1) ?_
         refine WL.val rfl rfl rfl rfl (r_load rfl (ev_t rfl) flat_3 (Blk.cell hb rfl)) ?_
         refine WL.val rfl rfl rfl rfl (r_neq rfl (ev_t rfl) ev_c) ?_
         refine WL.nil ?_
         refine WX.keep [(1, _), (18, _)] ⟨rfl, rfl, trivial⟩ ?_
         refine WX.next ?_
         refine WC.cond rfl (ev_t rfl) (fun hc3 => ?_) (fun hc3 => ?_)
         · try (exfalso; first | (simp at hc3; done) | (simp only [decide_eq_true_eq, decide_eq_false_iff_not, Bool.not_eq_true', Bool.not_eq_false', Bool.not_eq_true, Bool.not_eq_false] at hc3; omega) | omega)
           all_goals
            try simp only [decide_eq_true_eq, decide_eq_false_iff_not, Bool.not_eq_true', Bool.not_eq_false', Bool.not_eq_true, Bool.not_eq_false, Option.isNone_none, Option.isNone_some, Option.isSome_none, Option.isSome_some, ne_eq, Decidable.not_not] at hc3
            refine WC.seq ?_
            refine WC.region ?_
            refine WL.val rfl rfl rfl rfl (r_assign rfl ev_c) ?_
            refine WL.nil ?_
            refine WX.keep [(2, _)] ⟨rfl, trivial⟩ ?_
            refine WX.next ?_
            refine WC.ret ?_
            refine WX.thenRet ?_
            refine WX.retE1 rfl rfl ?_
            refine ⟨?_, hU⟩
            have h9 : okA n v = false := by
              unfold okA
              rw [if_neg h0]
              simp
              intro h; omega
            simp only [namedF, h9, Bool.false_and]
         · try (exfalso; first | (simp at hc3; done) | (simp only [decide_eq_true_eq, decide_eq_false_iff_not, Bool.not_eq_true', Bool.not_eq_false', Bool.not_eq_true, Bool.not_eq_false] at hc3; omega) | omega)
           all_goals
            try simp only [decide_eq_true_eq, decide_eq_false_iff_not, Bool.not_eq_true', Bool.not_eq_false', Bool.not_eq_true, Bool.not_eq_false, Option.isNone_none, Option.isNone_some, Option.isSome_none, Option.isSome_some, ne_eq, Decidable.not_not] at hc3
            refine WC.skip ?_
            refine WX.next ?_
            -- cut 5: live [1]
            refine WC.cut (fun E wC => okA n v = true ∧ Upd No w wC ∧ Blk wC w.heap.size #[Sv n, .int .i64 v, .slice A ks.length c] 24 ∧ E = [(1, .pointer (some ⟨w.heap.size, 0, none⟩))]) ?_ ?_
            · refine WC.seq ?_
              refine WC.region ?_
              refine WL.val rfl rfl rfl rfl (r_assign rfl ev_c) ?_
              refine WL.nil ?_
              refine WX.keep [(1, _), (3, _)] ⟨rfl, rfl, trivial⟩ ?_
              refine WX.next ?_
              refine WC.block ?_
              -- loop 1: live [1, 3]
              refine WC.keep [(1, _), (3, _)] ⟨rfl, rfl, trivial⟩ ?_
              refine WC.loop (fun qq E wC => ∃ j : Nat, j ≤ n.length ∧ qq = n.length - j ∧ Upd No w wC ∧ Blk wC w.heap.size #[Sv n, .int .i64 v, .slice A ks.length c] 24 ∧ (n.take j).all letB = true ∧ E = [(1, .pointer (some ⟨w.heap.size, 0, none⟩)), (3, .int .i64 (j : Int))]) (n.length) ?_ ?_
              · exact ⟨0, by omega, by omega, hU, hb, rfl, rfl⟩
              · clear hU hb
                rintro qq E wC ⟨j, hj, rfl, hU, hb, hall, rfl⟩
                refine WC.seq ?_
                refine WC.seq ?_
                refine WC.region ?_
                refine WL.val rfl rfl rfl rfl (r_move rfl (ev_t rfl)) ?_
                first | refine WL.val rfl rfl rfl rfl (r_field0 rfl (ev_t rfl) fld_24_0) ?_ | refine WL.val rfl rfl rfl rfl (r_fieldAt rfl (ev_t rfl) fld_24_0) ?_
                refine WL.val rfl rfl rfl rfl (r_load rfl (ev_t rfl) flat_9 (Blk.cell hb rfl)) ?_
                refine WL.val rfl rfl rfl rfl (r_lenStrL rfl (ev_t rfl) str_9) ?_
                refine WL.val rfl rfl rfl rfl (r_lss rfl (ev_t rfl) (ev_t rfl)) ?_
                refine WL.val rfl rfl rfl rfl (r_move rfl (ev_t rfl)) ?_
                refine WL.cases 24 rfl (fun hb6_5 => ?_) (fun hb6_5 => ?_)
                · try (exfalso; first | (simp at hb6_5; done) | (simp only [decide_eq_true_eq, decide_eq_false_iff_not, Bool.not_eq_true', Bool.not_eq_false', Bool.not_eq_true, Bool.not_eq_false] at hb6_5; omega) | omega)
                  all_goals
                   try simp only [decide_eq_true_eq, decide_eq_false_iff_not, Bool.not_eq_true', Bool.not_eq_false', Bool.not_eq_true, Bool.not_eq_false, Option.isNone_none, Option.isNone_some, Option.isSome_none, Option.isSome_some, ne_eq, Decidable.not_not] at hb6_5
                   first | refine WL.val rfl rfl rfl rfl (r_field0 rfl (ev_t rfl) fld_24_0) ?_ | refine WL.val rfl rfl rfl rfl (r_fieldAt rfl (ev_t rfl) fld_24_0) ?_
                   refine WL.val rfl rfl rfl rfl (r_load rfl (ev_t rfl) flat_9 (Blk.cell hb rfl)) ?_
                   refine WL.val rfl rfl rfl rfl (r_neqStrL rfl (ev_t rfl) ev_c) ?_
                   refine WL.val rfl rfl rfl rfl (r_pickT rfl (ev_t rfl) (ev_t rfl)) ?_
                   refine WL.val rfl rfl rfl rfl (r_move rfl (ev_t rfl)) ?_
                   refine WL.cases 29 rfl (fun hb6_10 => ?_) (fun hb6_10 => ?_)
                   · try (exfalso; first | (simp at hb6_10; done) | (simp only [decide_eq_true_eq, decide_eq_false_iff_not, Bool.not_eq_true', Bool.not_eq_false', Bool.not_eq_true, Bool.not_eq_false] at hb6_10; omega) | omega)
                     all_goals
                      try simp only [decide_eq_true_eq, decide_eq_false_iff_not, Bool.not_eq_true', Bool.not_eq_false', Bool.not_eq_true, Bool.not_eq_false, Option.isNone_none, Option.isNone_some, Option.isSome_none, Option.isSome_some, ne_eq, Decidable.not_not] at hb6_10
                      first | refine WL.val rfl rfl rfl rfl (r_field0 rfl (ev_t rfl) fld_24_0) ?_ | refine WL.val rfl rfl rfl rfl (r_fieldAt rfl (ev_t rfl) fld_24_0) ?_
                      refine WL.val rfl rfl rfl rfl (r_load rfl (ev_t rfl) flat_9 (Blk.cell hb rfl)) ?_
                      refine WL.val rfl rfl rfl rfl (r_neqStrL rfl (ev_t rfl) ev_c) ?_
                      refine WL.val rfl rfl rfl rfl (r_pickT rfl (ev_t rfl) (ev_t rfl)) ?_
                      refine WL.nil ?_
                      refine WX.keep [(1, _), (3, _), (33, _)] ⟨rfl, rfl, rfl, trivial⟩ ?_
                      refine WX.next ?_
                      refine WC.cond rfl (ev_t rfl) (fun hc6 => ?_) (fun hc6 => ?_)
                      · try (exfalso; first | (simp at hc6; done) | (simp only [decide_eq_true_eq, decide_eq_false_iff_not, Bool.not_eq_true', Bool.not_eq_false', Bool.not_eq_true, Bool.not_eq_false] at hc6; omega) | omega)
                        all_goals
                         try simp only [decide_eq_true_eq, decide_eq_false_iff_not, Bool.not_eq_true', Bool.not_eq_false', Bool.not_eq_true, Bool.not_eq_false, Option.isNone_none, Option.isNone_some, Option.isSome_none, Option.isSome_some, ne_eq, Decidable.not_not] at hc6
                         refine WC.skip ?_
                         refine WX.next ?_
                         refine WC.seq ?_
                         refine WC.block ?_
                         refine WC.seq ?_
                         refine WC.region ?_
                         first | refine WL.val rfl rfl rfl rfl (r_field0 rfl (ev_t rfl) fld_24_0) ?_ | refine WL.val rfl rfl rfl rfl (r_fieldAt rfl (ev_t rfl) fld_24_0) ?_
                         refine WL.val rfl rfl rfl rfl (r_load rfl (ev_t rfl) flat_9 (Blk.cell hb rfl)) ?_
                         refine WL.val rfl rfl rfl rfl (r_move rfl (ev_t rfl)) ?_
                         refine WL.val rfl rfl rfl rfl (r_indexStr (j := j) (c := n[j]'(by omega)) rfl (ev_t rfl) (ev_t rfl) Tryz.underlying9 rfl (by rw [mk_toList]; exact List.getElem?_eq_getElem (by omega))) ?_
                         refine WL.val rfl rfl rfl rfl (r_lss rfl (ev_t rfl) ev_c) ?_
                         refine WL.val rfl rfl rfl rfl (r_move rfl (ev_t rfl)) ?_
                         refine WL.cases 41 rfl (fun hb8_5 => ?_) (fun hb8_5 => ?_)
                         · try (exfalso; first | (simp at hb8_5; done) | (simp only [decide_eq_true_eq, decide_eq_false_iff_not, Bool.not_eq_true', Bool.not_eq_false', Bool.not_eq_true, Bool.not_eq_false] at hb8_5; omega) | omega)
                           all_goals
                            try simp only [decide_eq_true_eq, decide_eq_false_iff_not, Bool.not_eq_true', Bool.not_eq_false', Bool.not_eq_true, Bool.not_eq_false, Option.isNone_none, Option.isNone_some, Option.isSome_none, Option.isSome_some, ne_eq, Decidable.not_not] at hb8_5
                            refine WL.skip rfl rfl rfl ?_
                            refine WL.skip rfl rfl rfl ?_
                            refine WL.skip rfl rfl rfl ?_
                            refine WL.skip rfl rfl rfl ?_
                            refine WL.skip rfl rfl rfl ?_
                            refine WL.val rfl rfl rfl rfl (r_pickT rfl (ev_t rfl) ev_c) ?_
                            refine WL.nil ?_
                            refine WX.keep [(1, _), (3, _), (47, _)] ⟨rfl, rfl, rfl, trivial⟩ ?_
                            refine WX.next ?_
                            refine WC.cond_true rfl (ev_t rfl) ?_
                            refine WC.seq ?_
                            refine WC.region ?_
                            refine WL.val rfl rfl rfl rfl (r_assign rfl ev_c) ?_
                            refine WL.nil ?_
                            refine WX.keep [(2, _)] ⟨rfl, trivial⟩ ?_
                            refine WX.next ?_
                            refine WC.ret ?_
                            refine WX.blockRet ?_
                            refine WX.thenRet ?_
                            refine WX.thenRet ?_
                            refine WX.blockRet ?_
                            refine WX.thenRet ?_
                            refine WX.retE1 rfl rfl ?_
                            refine ⟨?_, hU⟩
                            have hjl : j < n.length := by omega
                            have h9 : okA n v = false := by
                              unfold okA
                              rw [if_neg h0]
                              have h8 : n.all letB = false := by
                                rw [List.all_eq_false]
                                refine ⟨n[j], List.getElem_mem _, ?_⟩
                                simp only [letB, decide_eq_true_eq]
                                omega
                              rw [h8]
                              have g1 : n ≠ [45, 62] := by first | exact hb6_10 | simpa using hb6_10
                              have g2 : n ≠ [42] := by first | exact hc6 | simpa using hc6
                              simp [g1, g2]
                            simp only [namedF, h9, Bool.false_and]
                         · try (exfalso; first | (simp at hb8_5; done) | (simp only [decide_eq_true_eq, decide_eq_false_iff_not, Bool.not_eq_true', Bool.not_eq_false', Bool.not_eq_true, Bool.not_eq_false] at hb8_5; omega) | omega)
                           all_goals
                            try simp only [decide_eq_true_eq, decide_eq_false_iff_not, Bool.not_eq_true', Bool.not_eq_false', Bool.not_eq_true, Bool.not_eq_false, Option.isNone_none, Option.isNone_some, Option.isSome_none, Option.isSome_some, ne_eq, Decidable.not_not] at hb8_5
                            first | refine WL.val rfl rfl rfl rfl (r_field0 rfl (ev_t rfl) fld_24_0) ?_ | refine WL.val rfl rfl rfl rfl (r_fieldAt rfl (ev_t rfl) fld_24_0) ?_
                            refine WL.val rfl rfl rfl rfl (r_load rfl (ev_t rfl) flat_9 (Blk.cell hb rfl)) ?_
                            refine WL.val rfl rfl rfl rfl (r_move rfl (ev_t rfl)) ?_
                            refine WL.val rfl rfl rfl rfl (r_indexStr (j := j) (c := n[j]'(by omega)) rfl (ev_t rfl) (ev_t rfl) Tryz.underlying9 rfl (by rw [mk_toList]; exact List.getElem?_eq_getElem (by omega))) ?_
                            refine WL.val rfl rfl rfl rfl (r_gtr rfl (ev_t rfl) ev_c) ?_
                            refine WL.val rfl rfl rfl rfl (r_pickF rfl (ev_t rfl) (ev_t rfl)) ?_
                            refine WL.nil ?_
                            refine WX.keep [(1, _), (3, _), (47, _)] ⟨rfl, rfl, rfl, trivial⟩ ?_
                            refine WX.next ?_
                            refine WC.cond rfl (ev_t rfl) (fun hc8 => ?_) (fun hc8 => ?_)
                            · try (exfalso; first | (simp at hc8; done) | (simp only [decide_eq_true_eq, decide_eq_false_iff_not, Bool.not_eq_true', Bool.not_eq_false', Bool.not_eq_true, Bool.not_eq_false] at hc8; omega) | omega)
                              all_goals
                               try simp only [decide_eq_true_eq, decide_eq_false_iff_not, Bool.not_eq_true', Bool.not_eq_false', Bool.not_eq_true, Bool.not_eq_false, Option.isNone_none, Option.isNone_some, Option.isSome_none, Option.isSome_some, ne_eq, Decidable.not_not] at hc8
                               refine WC.seq ?_
                               refine WC.region ?_
                               refine WL.val rfl rfl rfl rfl (r_assign rfl ev_c) ?_
                               refine WL.nil ?_
                               refine WX.keep [(2, _)] ⟨rfl, trivial⟩ ?_
                               refine WX.next ?_
                               refine WC.ret ?_
                               refine WX.blockRet ?_
                               refine WX.thenRet ?_
                               refine WX.thenRet ?_
                               refine WX.blockRet ?_
                               refine WX.thenRet ?_
                               refine WX.retE1 rfl rfl ?_
                               refine ⟨?_, hU⟩
                               have hjl : j < n.length := by omega
                               have h9 : okA n v = false := by
                                 unfold okA
                                 rw [if_neg h0]
                                 have h8 : n.all letB = false := by
                                   rw [List.all_eq_false]
                                   refine ⟨n[j], List.getElem_mem _, ?_⟩
                                   simp only [letB, decide_eq_true_eq]
                                   omega
                                 rw [h8]
                                 have g1 : n ≠ [45, 62] := by first | exact hb6_10 | simpa using hb6_10
                                 have g2 : n ≠ [42] := by first | exact hc6 | simpa using hc6
                                 simp [g1, g2]
                               simp only [namedF, h9, Bool.false_and]
                            · try (exfalso; first | (simp at hc8; done) | (simp only [decide_eq_true_eq, decide_eq_false_iff_not, Bool.not_eq_true', Bool.not_eq_false', Bool.not_eq_true, Bool.not_eq_false] at hc8; omega) | omega)
                              all_goals
                               try simp only [decide_eq_true_eq, decide_eq_false_iff_not, Bool.not_eq_true', Bool.not_eq_false', Bool.not_eq_true, Bool.not_eq_false, Option.isNone_none, Option.isNone_some, Option.isSome_none, Option.isSome_some, ne_eq, Decidable.not_not] at hc8
                               refine WC.skip ?_
                               refine WX.blockNormal ?_
                               refine WX.next ?_
                               refine WC.region ?_
                               refine WL.val rfl rfl rfl rfl (r_move rfl (ev_t rfl)) ?_
                               first | refine WL.val rfl rfl rfl rfl (r_addN rfl (ev_t rfl) ev_c (by simp only [inK]; omega)) ?_ | refine WL.val rfl rfl rfl rfl (r_add rfl (ev_t rfl) ev_c) ?_
                               refine WL.val rfl rfl rfl rfl (r_assign rfl (ev_t rfl)) ?_
                               refine WL.nil ?_
                               refine WX.keep [(1, _), (3, _)] ⟨rfl, rfl, trivial⟩ ?_
                               refine WX.meet [(1, _), (3, _)] ⟨rfl, rfl, trivial⟩ ?_
                               exact ⟨n.length - (j + 1), by omega, j + 1, by omega, rfl, hU, hb, by rw [List.take_add_one, List.getElem?_eq_getElem (by omega), List.all_append, hall]; simp [letB]; omega, rfl⟩
                      · try (exfalso; first | (simp at hc6; done) | (simp only [decide_eq_true_eq, decide_eq_false_iff_not, Bool.not_eq_true', Bool.not_eq_false', Bool.not_eq_true, Bool.not_eq_false] at hc6; omega) | omega)
                        all_goals
                         try simp only [decide_eq_true_eq, decide_eq_false_iff_not, Bool.not_eq_true', Bool.not_eq_false', Bool.not_eq_true, Bool.not_eq_false, Option.isNone_none, Option.isNone_some, Option.isSome_none, Option.isSome_some, ne_eq, Decidable.not_not] at hc6
                         refine WC.exit ?_
                         refine WX.thenExit ?_
                         refine WX.thenExit ?_
                         refine WX.blockHere ?_
                         refine WX.meet [(1, _)] ⟨rfl, trivial⟩ ?_
                         have h9 : okA n v = true := by
                           unfold okA
                           rw [if_neg h0]
                           simp only [Bool.and_eq_true, decide_eq_true_eq, Bool.or_eq_true]
                           refine ⟨by omega, ?_⟩
                           by_cases h1 : n = [45, 62]
                           · exact .inl (.inl h1)
                           · by_cases h2 : n = [42]
                             · exact .inl (.inr h2)
                             · obtain rfl : j = n.length := by
                                 first
                                   | omega
                                   | contradiction
                                   | (simp [h1, h2] at *; done)
                                   | (simp [h1, h2] at *; omega)
                               rw [List.take_length] at hall
                               exact .inr hall
                         exact ⟨h9, hU, hb, rfl⟩
                   · try (exfalso; first | (simp at hb6_10; done) | (simp only [decide_eq_true_eq, decide_eq_false_iff_not, Bool.not_eq_true', Bool.not_eq_false', Bool.not_eq_true, Bool.not_eq_false] at hb6_10; omega) | omega)
                     all_goals
                      try simp only [decide_eq_true_eq, decide_eq_false_iff_not, Bool.not_eq_true', Bool.not_eq_false', Bool.not_eq_true, Bool.not_eq_false, Option.isNone_none, Option.isNone_some, Option.isSome_none, Option.isSome_some, ne_eq, Decidable.not_not] at hb6_10
                      refine WL.skip rfl rfl rfl ?_
                      refine WL.skip rfl rfl rfl ?_
                      refine WL.skip rfl rfl rfl ?_
                      refine WL.val rfl rfl rfl rfl (r_pickF rfl (ev_t rfl) ev_c) ?_
                      refine WL.nil ?_
                      refine WX.keep [(1, _), (3, _), (33, _)] ⟨rfl, rfl, rfl, trivial⟩ ?_
                      refine WX.next ?_
                      refine WC.cond_false rfl (ev_t rfl) ?_
                      refine WC.exit ?_
                      refine WX.thenExit ?_
                      refine WX.thenExit ?_
                      refine WX.blockHere ?_
                      refine WX.meet [(1, _)] ⟨rfl, trivial⟩ ?_
                      have h9 : okA n v = true := by
                        unfold okA
                        rw [if_neg h0]
                        simp only [Bool.and_eq_true, decide_eq_true_eq, Bool.or_eq_true]
                        refine ⟨by omega, ?_⟩
                        by_cases h1 : n = [45, 62]
                        · exact .inl (.inl h1)
                        · by_cases h2 : n = [42]
                          · exact .inl (.inr h2)
                          · obtain rfl : j = n.length := by
                              first
                                | omega
                                | contradiction
                                | (simp [h1, h2] at *; done)
                                | (simp [h1, h2] at *; omega)
                            rw [List.take_length] at hall
                            exact .inr hall
                      exact ⟨h9, hU, hb, rfl⟩
                · try (exfalso; first | (simp at hb6_5; done) | (simp only [decide_eq_true_eq, decide_eq_false_iff_not, Bool.not_eq_true', Bool.not_eq_false', Bool.not_eq_true, Bool.not_eq_false] at hb6_5; omega) | omega)
                  all_goals
                   try simp only [decide_eq_true_eq, decide_eq_false_iff_not, Bool.not_eq_true', Bool.not_eq_false', Bool.not_eq_true, Bool.not_eq_false, Option.isNone_none, Option.isNone_some, Option.isSome_none, Option.isSome_some, ne_eq, Decidable.not_not] at hb6_5
                   refine WL.skip rfl rfl rfl ?_
                   refine WL.skip rfl rfl rfl ?_
                   refine WL.skip rfl rfl rfl ?_
                   refine WL.val rfl rfl rfl rfl (r_pickF rfl (ev_t rfl) ev_c) ?_
                   refine WL.val rfl rfl rfl rfl (r_move rfl (ev_t rfl)) ?_
                   refine WL.skip rfl rfl rfl ?_
                   refine WL.skip rfl rfl rfl ?_
                   refine WL.skip rfl rfl rfl ?_
                   refine WL.val rfl rfl rfl rfl (r_pickF rfl (ev_t rfl) ev_c) ?_
                   refine WL.nil ?_
                   refine WX.keep [(1, _), (3, _), (33, _)] ⟨rfl, rfl, rfl, trivial⟩ ?_
                   refine WX.next ?_
                   refine WC.cond_false rfl (ev_t rfl) ?_
                   refine WC.exit ?_
                   refine WX.thenExit ?_
                   refine WX.thenExit ?_
                   refine WX.blockHere ?_
                   refine WX.meet [(1, _)] ⟨rfl, trivial⟩ ?_
                   have h9 : okA n v = true := by
                     unfold okA
                     rw [if_neg h0]
                     simp only [Bool.and_eq_true, decide_eq_true_eq, Bool.or_eq_true]
                     refine ⟨by omega, ?_⟩
                     by_cases h1 : n = [45, 62]
                     · exact .inl (.inl h1)
                     · by_cases h2 : n = [42]
                       · exact .inl (.inr h2)
                       · obtain rfl : j = n.length := by
                           first
                             | omega
                             | contradiction
                             | (simp [h1, h2] at *; done)
                             | (simp [h1, h2] at *; omega)
                         rw [List.take_length] at hall
                         exact .inr hall
                   exact ⟨h9, hU, hb, rfl⟩
            · clear hU hb
              rintro E wD ⟨h9, hU, hb, rfl⟩
              refine WC.seq ?_
              refine WC.seq ?_
              refine WC.region ?_
              refine WL.val rfl rfl rfl rfl (r_assign rfl ev_c) ?_
              refine WL.nil ?_
              refine WX.keep [(1, _), (4, _)] ⟨rfl, rfl, trivial⟩ ?_
              refine WX.next ?_
              refine WC.block ?_
              -- loop 2: live [1, 4]
              refine WC.keep [(1, _), (4, _)] ⟨rfl, rfl, trivial⟩ ?_
              refine WC.loop (fun qq E wC => ∃ j : Nat, j ≤ ks.length ∧ qq = ks.length - j ∧ Upd No w wC ∧ Blk wC w.heap.size #[Sv n, .int .i64 v, .slice A ks.length c] 24 ∧ (ks.take j).all (namedF f) = true ∧ E = [(1, .pointer (some ⟨w.heap.size, 0, none⟩)), (4, .int .i64 (j : Int))]) (ks.length) ?_ ?_
              · exact ⟨0, by omega, by omega, hU, hb, rfl, rfl⟩
              · clear hU hb
                rintro qq E wC ⟨j, hj, rfl, hU, hb, hall, rfl⟩
                refine WC.seq ?_
                refine WC.seq ?_
                refine WC.region ?_
                refine WL.val rfl rfl rfl rfl (r_move rfl (ev_t rfl)) ?_
                first | refine WL.val rfl rfl rfl rfl (r_field0 rfl (ev_t rfl) fld_24_2) ?_ | refine WL.val rfl rfl rfl rfl (r_fieldAt rfl (ev_t rfl) fld_24_2) ?_
                refine WL.val rfl rfl rfl rfl (r_load rfl (ev_t rfl) flat_22 (Blk.cell hb rfl)) ?_
                refine WL.val rfl rfl rfl rfl (r_lenSlice (ts := #[]) rfl (ev_t rfl) elem_22) ?_
                refine WL.val rfl rfl rfl rfl (r_lss rfl (ev_t rfl) (ev_t rfl)) ?_
                refine WL.nil ?_
                refine WX.keep [(1, _), (4, _), (52, _)] ⟨rfl, rfl, rfl, trivial⟩ ?_
                refine WX.next ?_
                refine WC.cond rfl (ev_t rfl) (fun hc11 => ?_) (fun hc11 => ?_)
                · try (exfalso; first | (simp at hc11; done) | (simp only [decide_eq_true_eq, decide_eq_false_iff_not, Bool.not_eq_true', Bool.not_eq_false', Bool.not_eq_true, Bool.not_eq_false] at hc11; omega) | omega)
                  all_goals
                   try simp only [decide_eq_true_eq, decide_eq_false_iff_not, Bool.not_eq_true', Bool.not_eq_false', Bool.not_eq_true, Bool.not_eq_false, Option.isNone_none, Option.isNone_some, Option.isSome_none, Option.isSome_some, ne_eq, Decidable.not_not] at hc11
                   have hjl : j < ks.length := by omega
                   have hgk : ks[j]? = some ks[j] := List.getElem?_eq_getElem hjl
                   have hgx : xs[j]? = some (xs[j]'(by omega)) := List.getElem?_eq_getElem (by omega)
                   have htj := hk j _ _ hgx hgk
                   have hsj := hks _ (List.mem_of_getElem? hgk)
                   generalize ks[j] = kj at hgk htj hsj
                   generalize xs[j]'(by omega) = xj at hgx htj
                   obtain ⟨y0, y1, y2, rfl⟩ := len3e htj.len
                   obtain ⟨b0, off, rfl, _⟩ := hr.open (by omega)
                   refine WC.skip ?_
                   refine WX.next ?_
                   refine WC.seq ?_
                   refine WC.block ?_
                   refine WC.seq ?_
                   refine WC.region ?_
                   first | refine WL.val rfl rfl rfl rfl (r_field0 rfl (ev_t rfl) fld_24_2) ?_ | refine WL.val rfl rfl rfl rfl (r_fieldAt rfl (ev_t rfl) fld_24_2) ?_
                   refine WL.val rfl rfl rfl rfl (r_load rfl (ev_t rfl) flat_22 (Blk.cell hb rfl)) ?_
                   refine WL.val rfl rfl rfl rfl (r_move rfl (ev_t rfl)) ?_
                   refine WL.val rfl rfl rfl rfl (r_indexAddr rfl (ev_t rfl) (ev_t rfl) elem_22 size_24 (by omega) (by omega)) ?_
                   refine WL.val rfl rfl rfl rfl (r_loadAgg (vs := [_, _, _]) rfl (ev_t rfl) agg_24 size_24 (Rd.cellsL (us := [y0, y1, y2]) (hr.upd hU (fun _ _ _ h => h)) (i := j * 3) (by omega) (fun q v hv => flat3_get hxl hgx hv))) ?_
                   refine WL.cons (SO.call (named_ok f _ _ kj hsj (htj.upd hU)) rfl body_21 ⟨(ev_t rfl), trivial⟩ rfl rfl rfl rfl ?_)
                   rintro v9 w2 ⟨rfl, hu2⟩
                   have hs2 := hu2.size
                   replace hU := hU.transA hu2
                   replace hb := hb.upd hu2 (fun h => h)
                   refine WL.val rfl rfl rfl rfl (r_not rfl (ev_t rfl)) ?_
                   refine WL.nil ?_
                   refine WX.keep [(1, _), (4, _), (61, _)] ⟨rfl, rfl, rfl, trivial⟩ ?_
                   refine WX.next ?_
                   refine WC.cond rfl (ev_t rfl) (fun hc13 => ?_) (fun hc13 => ?_)
                   · try (exfalso; first | (simp at hc13; done) | (simp only [decide_eq_true_eq, decide_eq_false_iff_not, Bool.not_eq_true', Bool.not_eq_false', Bool.not_eq_true, Bool.not_eq_false] at hc13; omega) | omega)
                     all_goals
                      try simp only [decide_eq_true_eq, decide_eq_false_iff_not, Bool.not_eq_true', Bool.not_eq_false', Bool.not_eq_true, Bool.not_eq_false, Option.isNone_none, Option.isNone_some, Option.isSome_none, Option.isSome_some, ne_eq, Decidable.not_not] at hc13
                      refine WC.seq ?_
                      refine WC.region ?_
                      refine WL.val rfl rfl rfl rfl (r_assign rfl ev_c) ?_
                      refine WL.nil ?_
                      refine WX.keep [(2, _)] ⟨rfl, trivial⟩ ?_
                      refine WX.next ?_
                      refine WC.ret ?_
                      refine WX.blockRet ?_
                      refine WX.thenRet ?_
                      refine WX.thenRet ?_
                      refine WX.blockRet ?_
                      refine WX.thenRet ?_
                      refine WX.retE1 rfl rfl ?_
                      refine ⟨?_, hU⟩
                      have h8 : ks.all (namedF f) = false := by
                        rw [List.all_eq_false]
                        exact ⟨kj, List.mem_of_getElem? hgk, by simpa using hc13⟩
                      simp [namedF, h9, h8, h0]
                   · try (exfalso; first | (simp at hc13; done) | (simp only [decide_eq_true_eq, decide_eq_false_iff_not, Bool.not_eq_true', Bool.not_eq_false', Bool.not_eq_true, Bool.not_eq_false] at hc13; omega) | omega)
                     all_goals
                      try simp only [decide_eq_true_eq, decide_eq_false_iff_not, Bool.not_eq_true', Bool.not_eq_false', Bool.not_eq_true, Bool.not_eq_false, Option.isNone_none, Option.isNone_some, Option.isSome_none, Option.isSome_some, ne_eq, Decidable.not_not] at hc13
                      refine WC.skip ?_
                      refine WX.blockNormal ?_
                      refine WX.next ?_
                      refine WC.region ?_
                      refine WL.val rfl rfl rfl rfl (r_move rfl (ev_t rfl)) ?_
                      first | refine WL.val rfl rfl rfl rfl (r_addN rfl (ev_t rfl) ev_c (by simp only [inK]; omega)) ?_ | refine WL.val rfl rfl rfl rfl (r_add rfl (ev_t rfl) ev_c) ?_
                      refine WL.val rfl rfl rfl rfl (r_assign rfl (ev_t rfl)) ?_
                      refine WL.nil ?_
                      refine WX.keep [(1, _), (4, _)] ⟨rfl, rfl, trivial⟩ ?_
                      refine WX.meet [(1, _), (4, _)] ⟨rfl, rfl, trivial⟩ ?_
                      exact ⟨ks.length - (j + 1), by omega, j + 1, by omega, rfl, hU, hb, by rw [List.take_add_one, hgk, List.all_append, hall]; simpa using hc13, rfl⟩
                · try (exfalso; first | (simp at hc11; done) | (simp only [decide_eq_true_eq, decide_eq_false_iff_not, Bool.not_eq_true', Bool.not_eq_false', Bool.not_eq_true, Bool.not_eq_false] at hc11; omega) | omega)
                  all_goals
                   try simp only [decide_eq_true_eq, decide_eq_false_iff_not, Bool.not_eq_true', Bool.not_eq_false', Bool.not_eq_true, Bool.not_eq_false, Option.isNone_none, Option.isNone_some, Option.isSome_none, Option.isSome_some, ne_eq, Decidable.not_not] at hc11
                   obtain rfl : j = ks.length := by omega
                   rw [List.take_length] at hall
                   refine WC.exit ?_
                   refine WX.thenExit ?_
                   refine WX.thenExit ?_
                   refine WX.blockHere ?_
                   refine WX.next ?_
                   refine WC.seq ?_
                   refine WC.region ?_
                   refine WL.val rfl rfl rfl rfl (r_assign rfl ev_c) ?_
                   refine WL.nil ?_
                   refine WX.keep [(2, _)] ⟨rfl, trivial⟩ ?_
                   refine WX.next ?_
                   refine WC.ret ?_
                   refine WX.retE1 rfl rfl ?_
                   exact ⟨by simp only [namedF, h9, hall, Bool.or_true, Bool.and_self], hU⟩
theorem sameK_get {S : Tr → Tr → Bool} : ∀ (ks js : List Tr), ks.length = js.length → (sameK S ks js = true ↔ ∀ (i : Nat) a b, ks[i]? = some a → js[i]? = some b → S a b = true)
  | [], [], _ => by simp [sameK]
  | [], j :: q, h => by simp at h
  | k :: r, [], h => by simp at h
  | k :: r, j :: q, h => by
    have h2 := sameK_get (S := S) r q (by simpa using h)
    simp only [sameK, Bool.and_eq_true, h2]
    constructor
    · rintro ⟨h3, h4⟩ i a b ha hb
      cases i with
      | zero =>
        simp only [List.getElem?_cons_zero, Option.some.injEq] at ha hb
        subst ha hb
        exact h3
      | succ i => exact h4 i a b (by simpa using ha) (by simpa using hb)
    · intro h3
      exact ⟨h3 0 k j rfl rfl, fun i a b ha hb => h3 (i + 1) a b (by simpa using ha) (by simpa using hb)⟩
theorem sameK_len {S : Tr → Tr → Bool} : ∀ (ks js : List Tr), sameK S ks js = true → ks.length = js.length
  | [], [], _ => rfl
  | [], j :: q, h => by simp [sameK] at h
  | k :: r, [], h => by simp [sameK] at h
  | k :: r, j :: q, h => by
    simp only [sameK, Bool.and_eq_true] at h
    simp [sameK_len r q h.2]

set_option maxHeartbeats 4000000 in
theorem sameT_ok {F G : Nat → Prop} : ∀ (f : Nat) (w : World) (x y : List Value) (t u : Tr), smallF f t = true → smallF f u = true → TR w F x t → TR w G y u → Ret Tryz.prog 16 #[.agg x.toArray, .agg y.toArray] w fun v w' => v = .bool (sameF f t u) ∧ Upd No w w'
  | 0, w, x, y, t, u, hs, _, ht, _ => by simp [smallF] at hs
  | f + 1, w, x, y, t, u, hs, gs, ht, gt => by
    cases ht with
    | mk hr hl hv hn hk =>
    cases gt with
    | mk gr gl gv gn gk =>
      rename_i n v ks kv xs m z js jv ys
      obtain ⟨A, c, rfl, hc⟩ := hr.slice_form
      obtain ⟨B, d, rfl, gc⟩ := gr.slice_form
      have hxl := kids_len hl hk
      have gxl := kids_len gl gk
      have hm := hr.le
      have gm := gr.le
      simp only [smallF, Bool.and_eq_true, List.all_eq_true] at hs gs
      have hks := hs.2
      have gks := gs.2
      clear hs gs
      refine enterRet (vs := [_, _]) (N := 46) Tryz.func16 rfl rfl rfl ?_
      have hU := Upd.refl No w
      refine WC.keep [(0, _), (1, _)] ⟨rfl, rfl, trivial⟩ ?_
      refine WC.seq ?_
      refine WC.region ?_
      refine WL.cons (SO.alloc rfl rfl rfl rfl (r_boxAgg rfl (ev_t rfl)) ?_)
      intro w1 hu1 hB1 hz1
      have hs1 := hu1.size
      replace hU := hU.transA hu1
      refine WL.cons (SO.alloc rfl rfl rfl rfl (r_boxAgg rfl (ev_t rfl)) ?_)
      intro w2 hu2 hB2 hz2
      have hs2 := hu2.size
      replace hU := hU.transA hu2
      replace hB1 := hB1.updA hu2
      refine WL.val rfl rfl rfl rfl (r_assign rfl ev_c) ?_
      refine WL.nil ?_
      refine WX.keep [(2, _), (3, _)] ⟨rfl, rfl, trivial⟩ ?_
      have hb := hB1
      have gb := hB2
      change Blk _ _ #[Sv n, .int .i64 v, .slice A ks.length c] _ at hb
      change Blk _ _ #[Sv m, .int .i64 z, .slice B js.length d] _ at gb
      refine WX.next ?_
      refine WC.seq ?_
      refine WC.seq ?_
      refine WC.region ?_
      first | refine WL.val rfl rfl rfl rfl (r_field0 rfl (ev_t rfl) fld_24_0) ?_ | refine WL.val rfl rfl rfl rfl (r_fieldAt rfl (ev_t rfl) fld_24_0) ?_
      refine WL.val rfl rfl rfl rfl (r_load rfl (ev_t rfl) flat_9 (Blk.cell hb rfl)) ?_
      first | refine WL.val rfl rfl rfl rfl (r_field0 rfl (ev_t rfl) fld_24_0) ?_ | refine WL.val rfl rfl rfl rfl (r_fieldAt rfl (ev_t rfl) fld_24_0) ?_
      refine WL.val rfl rfl rfl rfl (r_load rfl (ev_t rfl) flat_9 (Blk.cell gb rfl)) ?_
      refine WL.val rfl rfl rfl rfl (r_neqStrL rfl (ev_t rfl) (ev_t rfl)) ?_
      refine WL.val rfl rfl rfl rfl (r_move rfl (ev_t rfl)) ?_
      refine WL.cases 11 rfl (fun hb1_5 => ?_) (fun hb1_5 => ?_)
      · try (exfalso; first | (simp at hb1_5; done) | (simp only [decide_eq_true_eq, decide_eq_false_iff_not, Bool.not_eq_true', Bool.not_eq_false', Bool.not_eq_true, Bool.not_eq_false] at hb1_5; omega) | omega)
        all_goals
         try simp only [decide_eq_true_eq, decide_eq_false_iff_not, Bool.not_eq_true', Bool.not_eq_false', Bool.not_eq_true, Bool.not_eq_false, Option.isNone_none, Option.isNone_some, Option.isSome_none, Option.isSome_some, ne_eq, Decidable.not_not] at hb1_5
         refine WL.skip rfl rfl rfl ?_
         refine WL.skip rfl rfl rfl ?_
         refine WL.skip rfl rfl rfl ?_
         refine WL.skip rfl rfl rfl ?_
         refine WL.skip rfl rfl rfl ?_
         refine WL.val rfl rfl rfl rfl (r_pickT rfl (ev_t rfl) ev_c) ?_
         refine WL.val rfl rfl rfl rfl (r_move rfl (ev_t rfl)) ?_
         refine WL.skip rfl rfl rfl ?_
         refine WL.skip rfl rfl rfl ?_
         refine WL.skip rfl rfl rfl ?_
         refine WL.skip rfl rfl rfl ?_
         refine WL.skip rfl rfl rfl ?_
         refine WL.skip rfl rfl rfl ?_
         refine WL.skip rfl rfl rfl ?_
         refine WL.val rfl rfl rfl rfl (r_pickT rfl (ev_t rfl) ev_c) ?_
         refine WL.nil ?_
         refine WX.keep [(2, _), (3, _), (26, _)] ⟨rfl, rfl, rfl, trivial⟩ ?_
         refine WX.next ?_
         refine WC.cond_true rfl (ev_t rfl) ?_
         refine WC.seq ?_
         refine WC.region ?_
         refine WL.val rfl rfl rfl rfl (r_assign rfl ev_c) ?_
         refine WL.nil ?_
         refine WX.keep [(4, _)] ⟨rfl, trivial⟩ ?_
         refine WX.next ?_
         refine WC.ret ?_
         refine WX.thenRet ?_
         refine WX.retE1 rfl rfl ?_
         refine ⟨?_, hU⟩
         have h9 : sameF (f + 1) (.mk n v ks) (.mk m z js) = false := by
           rw [← Bool.not_eq_true]
           simp only [sameF, Bool.and_eq_true, decide_eq_true_eq]
           rintro ⟨⟨h1, h2⟩, h3⟩
           have h4 := sameK_len _ _ h3
           first
             | omega
             | contradiction
             | (simp_all; done)
         rw [h9]
      · try (exfalso; first | (simp at hb1_5; done) | (simp only [decide_eq_true_eq, decide_eq_false_iff_not, Bool.not_eq_true', Bool.not_eq_false', Bool.not_eq_true, Bool.not_eq_false] at hb1_5; omega) | omega)
        all_goals
         try simp only [decide_eq_true_eq, decide_eq_false_iff_not, Bool.not_eq_true', Bool.not_eq_false', Bool.not_eq_true, Bool.not_eq_false, Option.isNone_none, Option.isNone_some, Option.isSome_none, Option.isSome_some, ne_eq, Decidable.not_not] at hb1_5
         first | refine WL.val rfl rfl rfl rfl (r_field0 rfl (ev_t rfl) fld_24_1) ?_ | refine WL.val rfl rfl rfl rfl (r_fieldAt rfl (ev_t rfl) fld_24_1) ?_
         refine WL.val rfl rfl rfl rfl (r_load rfl (ev_t rfl) flat_3 (Blk.cell hb rfl)) ?_
         first | refine WL.val rfl rfl rfl rfl (r_field0 rfl (ev_t rfl) fld_24_1) ?_ | refine WL.val rfl rfl rfl rfl (r_fieldAt rfl (ev_t rfl) fld_24_1) ?_
         refine WL.val rfl rfl rfl rfl (r_load rfl (ev_t rfl) flat_3 (Blk.cell gb rfl)) ?_
         refine WL.val rfl rfl rfl rfl (r_neq rfl (ev_t rfl) (ev_t rfl)) ?_
         refine WL.val rfl rfl rfl rfl (r_pickF rfl (ev_t rfl) (ev_t rfl)) ?_
         refine WL.val rfl rfl rfl rfl (r_move rfl (ev_t rfl)) ?_
         refine WL.cases 18 rfl (fun hb1_12 => ?_) (fun hb1_12 => ?_)
         · try (exfalso; first | (simp at hb1_12; done) | (simp only [decide_eq_true_eq, decide_eq_false_iff_not, Bool.not_eq_true', Bool.not_eq_false', Bool.not_eq_true, Bool.not_eq_false] at hb1_12; omega) | omega)
           all_goals
            try simp only [decide_eq_true_eq, decide_eq_false_iff_not, Bool.not_eq_true', Bool.not_eq_false', Bool.not_eq_true, Bool.not_eq_false, Option.isNone_none, Option.isNone_some, Option.isSome_none, Option.isSome_some, ne_eq, Decidable.not_not] at hb1_12
            refine WL.skip rfl rfl rfl ?_
            refine WL.skip rfl rfl rfl ?_
            refine WL.skip rfl rfl rfl ?_
            refine WL.skip rfl rfl rfl ?_
            refine WL.skip rfl rfl rfl ?_
            refine WL.skip rfl rfl rfl ?_
            refine WL.skip rfl rfl rfl ?_
            refine WL.val rfl rfl rfl rfl (r_pickT rfl (ev_t rfl) ev_c) ?_
            refine WL.nil ?_
            refine WX.keep [(2, _), (3, _), (26, _)] ⟨rfl, rfl, rfl, trivial⟩ ?_
            refine WX.next ?_
            refine WC.cond_true rfl (ev_t rfl) ?_
            refine WC.seq ?_
            refine WC.region ?_
            refine WL.val rfl rfl rfl rfl (r_assign rfl ev_c) ?_
            refine WL.nil ?_
            refine WX.keep [(4, _)] ⟨rfl, trivial⟩ ?_
            refine WX.next ?_
            refine WC.ret ?_
            refine WX.thenRet ?_
            refine WX.retE1 rfl rfl ?_
            refine ⟨?_, hU⟩
            have h9 : sameF (f + 1) (.mk n v ks) (.mk m z js) = false := by
              rw [← Bool.not_eq_true]
              simp only [sameF, Bool.and_eq_true, decide_eq_true_eq]
              rintro ⟨⟨h1, h2⟩, h3⟩
              have h4 := sameK_len _ _ h3
              first
                | omega
                | contradiction
                | (simp_all; done)
            rw [h9]
         · try (exfalso; first | (simp at hb1_12; done) | (simp only [decide_eq_true_eq, decide_eq_false_iff_not, Bool.not_eq_true', Bool.not_eq_false', Bool.not_eq_true, Bool.not_eq_false] at hb1_12; omega) | omega)
           all_goals
            try simp only [decide_eq_true_eq, decide_eq_false_iff_not, Bool.not_eq_true', Bool.not_eq_false', Bool.not_eq_true, Bool.not_eq_false, Option.isNone_none, Option.isNone_some, Option.isSome_none, Option.isSome_some, ne_eq, Decidable.not_not] at hb1_12
            first | refine WL.val rfl rfl rfl rfl (r_field0 rfl (ev_t rfl) fld_24_2) ?_ | refine WL.val rfl rfl rfl rfl (r_fieldAt rfl (ev_t rfl) fld_24_2) ?_
            refine WL.val rfl rfl rfl rfl (r_load rfl (ev_t rfl) flat_22 (Blk.cell hb rfl)) ?_
            refine WL.val rfl rfl rfl rfl (r_lenSlice (ts := #[]) rfl (ev_t rfl) elem_22) ?_
            first | refine WL.val rfl rfl rfl rfl (r_field0 rfl (ev_t rfl) fld_24_2) ?_ | refine WL.val rfl rfl rfl rfl (r_fieldAt rfl (ev_t rfl) fld_24_2) ?_
            refine WL.val rfl rfl rfl rfl (r_load rfl (ev_t rfl) flat_22 (Blk.cell gb rfl)) ?_
            refine WL.val rfl rfl rfl rfl (r_lenSlice (ts := #[]) rfl (ev_t rfl) elem_22) ?_
            refine WL.val rfl rfl rfl rfl (r_neq rfl (ev_t rfl) (ev_t rfl)) ?_
            refine WL.val rfl rfl rfl rfl (r_pickF rfl (ev_t rfl) (ev_t rfl)) ?_
            refine WL.nil ?_
            refine WX.keep [(2, _), (3, _), (26, _)] ⟨rfl, rfl, rfl, trivial⟩ ?_
            refine WX.next ?_
            refine WC.cond rfl (ev_t rfl) (fun hc1 => ?_) (fun hc1 => ?_)
            · try (exfalso; first | (simp at hc1; done) | (simp only [decide_eq_true_eq, decide_eq_false_iff_not, Bool.not_eq_true', Bool.not_eq_false', Bool.not_eq_true, Bool.not_eq_false] at hc1; omega) | omega)
              all_goals
               try simp only [decide_eq_true_eq, decide_eq_false_iff_not, Bool.not_eq_true', Bool.not_eq_false', Bool.not_eq_true, Bool.not_eq_false, Option.isNone_none, Option.isNone_some, Option.isSome_none, Option.isSome_some, ne_eq, Decidable.not_not] at hc1
               refine WC.seq ?_
               refine WC.region ?_
               refine WL.val rfl rfl rfl rfl (r_assign rfl ev_c) ?_
               refine WL.nil ?_
               refine WX.keep [(4, _)] ⟨rfl, trivial⟩ ?_
               refine WX.next ?_
               refine WC.ret ?_
               refine WX.thenRet ?_
               refine WX.retE1 rfl rfl ?_
               refine ⟨?_, hU⟩
               have h9 : sameF (f + 1) (.mk n v ks) (.mk m z js) = false := by
                 rw [← Bool.not_eq_true]
                 simp only [sameF, Bool.and_eq_true, decide_eq_true_eq]
                 rintro ⟨⟨h1, h2⟩, h3⟩
                 have h4 := sameK_len _ _ h3
                 first
                   | omega
                   | contradiction
                   | (simp_all; done)
               rw [h9]
            · try (exfalso; first | (simp at hc1; done) | (simp only [decide_eq_true_eq, decide_eq_false_iff_not, Bool.not_eq_true', Bool.not_eq_false', Bool.not_eq_true, Bool.not_eq_false] at hc1; omega) | omega)
              all_goals
               try simp only [decide_eq_true_eq, decide_eq_false_iff_not, Bool.not_eq_true', Bool.not_eq_false', Bool.not_eq_true, Bool.not_eq_false, Option.isNone_none, Option.isNone_some, Option.isSome_none, Option.isSome_some, ne_eq, Decidable.not_not] at hc1
               have hnm : n = m := by first | assumption | simpa using hb1_5
               have hvz : v = z := by omega
               have hkj : ks.length = js.length := by omega
               refine WC.skip ?_
               refine WX.next ?_
               refine WC.seq ?_
               refine WC.seq ?_
               refine WC.region ?_
               refine WL.val rfl rfl rfl rfl (r_assign rfl ev_c) ?_
               refine WL.nil ?_
               refine WX.keep [(2, _), (3, _), (5, _)] ⟨rfl, rfl, rfl, trivial⟩ ?_
               refine WX.next ?_
               refine WC.block ?_
               -- loop 1: live [2, 3, 5]
               refine WC.keep [(2, _), (3, _), (5, _)] ⟨rfl, rfl, rfl, trivial⟩ ?_
               refine WC.loop (fun qq E wC => ∃ j : Nat, j ≤ ks.length ∧ qq = ks.length - j ∧ Upd No w wC ∧ Blk wC w.heap.size #[Sv n, .int .i64 v, .slice A ks.length c] 24 ∧ Blk wC w1.heap.size #[Sv m, .int .i64 z, .slice B js.length d] 24 ∧ (∀ (i : Nat) a b, i < j → ks[i]? = some a → js[i]? = some b → sameF f a b = true) ∧ E = [(2, .pointer (some ⟨w.heap.size, 0, none⟩)), (3, .pointer (some ⟨w1.heap.size, 0, none⟩)), (5, .int .i64 (j : Int))]) (ks.length) ?_ ?_
               · exact ⟨0, by omega, by omega, hU, hb, gb, fun i a b h => by omega, rfl⟩
               · clear hU hb gb
                 rintro qq E wC ⟨j, hj, rfl, hU, hb, gb, hall, rfl⟩
                 refine WC.seq ?_
                 refine WC.seq ?_
                 refine WC.region ?_
                 refine WL.val rfl rfl rfl rfl (r_move rfl (ev_t rfl)) ?_
                 first | refine WL.val rfl rfl rfl rfl (r_field0 rfl (ev_t rfl) fld_24_2) ?_ | refine WL.val rfl rfl rfl rfl (r_fieldAt rfl (ev_t rfl) fld_24_2) ?_
                 refine WL.val rfl rfl rfl rfl (r_load rfl (ev_t rfl) flat_22 (Blk.cell hb rfl)) ?_
                 refine WL.val rfl rfl rfl rfl (r_lenSlice (ts := #[]) rfl (ev_t rfl) elem_22) ?_
                 refine WL.val rfl rfl rfl rfl (r_lss rfl (ev_t rfl) (ev_t rfl)) ?_
                 refine WL.nil ?_
                 refine WX.keep [(2, _), (3, _), (5, _), (31, _)] ⟨rfl, rfl, rfl, rfl, trivial⟩ ?_
                 refine WX.next ?_
                 refine WC.cond rfl (ev_t rfl) (fun hc4 => ?_) (fun hc4 => ?_)
                 · try (exfalso; first | (simp at hc4; done) | (simp only [decide_eq_true_eq, decide_eq_false_iff_not, Bool.not_eq_true', Bool.not_eq_false', Bool.not_eq_true, Bool.not_eq_false] at hc4; omega) | omega)
                   all_goals
                    try simp only [decide_eq_true_eq, decide_eq_false_iff_not, Bool.not_eq_true', Bool.not_eq_false', Bool.not_eq_true, Bool.not_eq_false, Option.isNone_none, Option.isNone_some, Option.isSome_none, Option.isSome_some, ne_eq, Decidable.not_not] at hc4
                    have hjl : j < ks.length := by omega
                    have hgk : ks[j]? = some ks[j] := List.getElem?_eq_getElem hjl
                    have hgx : xs[j]? = some (xs[j]'(by omega)) := List.getElem?_eq_getElem (by omega)
                    have htj := hk j _ _ hgx hgk
                    have hsj := hks _ (List.mem_of_getElem? hgk)
                    generalize ks[j] = kj at hgk htj hsj
                    generalize xs[j]'(by omega) = xj at hgx htj
                    obtain ⟨y0, y1, y2, rfl⟩ := len3e htj.len
                    have hgj : js[j]? = some (js[j]'(by omega)) := List.getElem?_eq_getElem (by omega)
                    have hgy : ys[j]? = some (ys[j]'(by omega)) := List.getElem?_eq_getElem (by omega)
                    have gtj := gk j _ _ hgy hgj
                    have gsj := gks _ (List.mem_of_getElem? hgj)
                    generalize js[j]'(by omega) = jj at hgj gtj gsj
                    generalize ys[j]'(by omega) = yj at hgy gtj
                    obtain ⟨z0, z1, z2, rfl⟩ := len3e gtj.len
                    obtain ⟨b0, off, rfl, _⟩ := hr.open (by omega)
                    obtain ⟨b1, off1, rfl, _⟩ := gr.open (by omega)
                    refine WC.skip ?_
                    refine WX.next ?_
                    refine WC.seq ?_
                    refine WC.block ?_
                    refine WC.seq ?_
                    have hrw := hr.upd hU (fun _ _ _ h => h)
                    have grw := gr.upd hU (fun _ _ _ h => h)
                    refine WC.draws' (fun u0_ u1_ => Upd No u0_ u1_) (fun j => [0, 0, 0, 0, 0, 0, 1, 0, 0, 1, 2, 0].getD j 0) (.calm 0 (.calm 2 (.calm 5 (.calm 7 (.held 1 (.calm 3 (.held 4 (.one 6 (.calm 8 (.one 9 (.one 10 (.calm 11 (.done))))))))))))) mixed (by kernel_rfl) (by repeat (first | with_reducible exact Deaf.body | with_reducible apply Deaf.then | with_reducible apply Deaf.block)) ?_
                    intro w3 hu3
                    have hz3 := congrArg Array.size hu3.2.2.2
                    replace hu3 := Upd.of_draw hu3
                    have hs3 := hu3.size
                    replace hU := hU.transA hu3
                    replace hb := hb.upd hu3 (fun h => h)
                    replace gb := gb.upd hu3 (fun h => h)
                    replace hrw := hrw.upd hu3 (fun _ _ _ h => h)
                    replace grw := grw.upd hu3 (fun _ _ _ h => h)
                    have hS6 := Upd.refl No w3
                    first | refine WN.calm _ rfl rfl rfl rfl rfl (fun _ => r_field0 rfl (ev_t rfl) fld_24_2) ?_ | refine WN.calm _ rfl rfl rfl rfl rfl (fun _ => r_fieldAt rfl (ev_t rfl) fld_24_2) ?_
                    refine WN.calm _ rfl rfl rfl rfl rfl (fun _ => r_move rfl (ev_t rfl)) ?_
                    first | refine WN.calm _ rfl rfl rfl rfl rfl (fun _ => r_field0 rfl (ev_t rfl) fld_24_2) ?_ | refine WN.calm _ rfl rfl rfl rfl rfl (fun _ => r_fieldAt rfl (ev_t rfl) fld_24_2) ?_
                    refine WN.calm _ rfl rfl rfl rfl rfl (fun _ => r_move rfl (ev_t rfl)) ?_
                    refine WN.held _ rfl rfl rfl rfl rfl hS6 (fun w' hS => r_load rfl (ev_t rfl) flat_22 (Blk.cell (hb.upd hS (fun h => h)) rfl)) ?_
                    refine WN.calm _ rfl rfl rfl rfl rfl (fun _ => r_indexAddr rfl (ev_t rfl) (ev_t rfl) elem_22 size_24 (by omega) (by omega)) ?_
                    refine WN.held _ rfl rfl rfl rfl rfl hS6 (fun w' hS => r_loadAgg (vs := [_, _, _]) rfl (ev_t rfl) agg_24 size_24 (Rd.cellsL (us := [y0, y1, y2]) (hrw.upd hS (fun _ _ _ h => h)) (i := j * 3) (by omega) (fun q v hv => flat3_get hxl hgx hv))) ?_
                    refine WN.step _ rfl (SO.val rfl rfl rfl rfl (r_load rfl (ev_t rfl) flat_22 (Blk.cell gb rfl)) ?_)
                    refine ⟨hS6, ?_⟩
                    refine WN.calm _ rfl rfl rfl rfl rfl (fun _ => r_indexAddr rfl (ev_t rfl) (ev_t rfl) elem_22 size_24 (by omega) (by omega)) ?_
                    refine WN.step _ rfl (SO.val rfl rfl rfl rfl (r_loadAgg (vs := [_, _, _]) rfl (ev_t rfl) agg_24 size_24 (Rd.cellsL (us := [z0, z1, z2]) grw (i := j * 3) (by omega) (fun q v hv => flat3_get gxl hgy hv))) ?_)
                    refine ⟨hS6, ?_⟩
                    refine WN.step _ rfl (SO.call (sameT_ok f _ _ _ kj jj hsj gsj (htj.upd hU) (gtj.upd hU)) rfl body_16 ⟨(ev_t rfl), (ev_t rfl), trivial⟩ rfl rfl rfl rfl ?_)
                    rintro v9 w4 ⟨rfl, hu4⟩
                    have hs4 := hu4.size
                    try replace hS6 := Upd.transA hS6 hu4
                    replace hU := hU.transA hu4
                    replace hb := hb.upd hu4 (fun h => h)
                    replace gb := gb.upd hu4 (fun h => h)
                    replace hrw := hrw.upd hu4 (fun _ _ _ h => h)
                    replace grw := grw.upd hu4 (fun _ _ _ h => h)
                    refine ⟨trivial, ?_⟩
                    refine WN.calm _ rfl rfl rfl rfl rfl (fun _ => r_not rfl (ev_t rfl)) ?_
                    refine WN.done ?_
                    refine WX.keep [(2, _), (3, _), (5, _), (45, _)] ⟨rfl, rfl, rfl, rfl, trivial⟩ ?_
                    refine WX.next ?_
                    refine WC.cond rfl (ev_t rfl) (fun hc6 => ?_) (fun hc6 => ?_)
                    · try (exfalso; first | (simp at hc6; done) | (simp only [decide_eq_true_eq, decide_eq_false_iff_not, Bool.not_eq_true', Bool.not_eq_false', Bool.not_eq_true, Bool.not_eq_false] at hc6; omega) | omega)
                      all_goals
                       try simp only [decide_eq_true_eq, decide_eq_false_iff_not, Bool.not_eq_true', Bool.not_eq_false', Bool.not_eq_true, Bool.not_eq_false, Option.isNone_none, Option.isNone_some, Option.isSome_none, Option.isSome_some, ne_eq, Decidable.not_not] at hc6
                       refine WC.seq ?_
                       refine WC.region ?_
                       refine WL.val rfl rfl rfl rfl (r_assign rfl ev_c) ?_
                       refine WL.nil ?_
                       refine WX.keep [(4, _)] ⟨rfl, trivial⟩ ?_
                       refine WX.next ?_
                       refine WC.ret ?_
                       refine WX.blockRet ?_
                       refine WX.thenRet ?_
                       refine WX.thenRet ?_
                       refine WX.blockRet ?_
                       refine WX.thenRet ?_
                       refine WX.retE1 rfl rfl ?_
                       refine ⟨?_, hU⟩
                       have h9 : sameF (f + 1) (.mk n v ks) (.mk m z js) = false := by
                         rw [← Bool.not_eq_true]
                         simp only [sameF, Bool.and_eq_true, decide_eq_true_eq]
                         rintro ⟨⟨h1, h2⟩, h3⟩
                         have h4 := (sameK_get _ _ hkj).1 h3 j kj jj hgk hgj
                         simp [h4] at hc6
                       rw [h9]
                    · try (exfalso; first | (simp at hc6; done) | (simp only [decide_eq_true_eq, decide_eq_false_iff_not, Bool.not_eq_true', Bool.not_eq_false', Bool.not_eq_true, Bool.not_eq_false] at hc6; omega) | omega)
                      all_goals
                       try simp only [decide_eq_true_eq, decide_eq_false_iff_not, Bool.not_eq_true', Bool.not_eq_false', Bool.not_eq_true, Bool.not_eq_false, Option.isNone_none, Option.isNone_some, Option.isSome_none, Option.isSome_some, ne_eq, Decidable.not_not] at hc6
                       refine WC.skip ?_
                       refine WX.blockNormal ?_
                       refine WX.next ?_
                       refine WC.region ?_
                       refine WL.val rfl rfl rfl rfl (r_move rfl (ev_t rfl)) ?_
                       first | refine WL.val rfl rfl rfl rfl (r_addN rfl (ev_t rfl) ev_c (by simp only [inK]; omega)) ?_ | refine WL.val rfl rfl rfl rfl (r_add rfl (ev_t rfl) ev_c) ?_
                       refine WL.val rfl rfl rfl rfl (r_assign rfl (ev_t rfl)) ?_
                       refine WL.nil ?_
                       refine WX.keep [(2, _), (3, _), (5, _)] ⟨rfl, rfl, rfl, trivial⟩ ?_
                       refine WX.meet [(2, _), (3, _), (5, _)] ⟨rfl, rfl, rfl, trivial⟩ ?_
                       exact ⟨ks.length - (j + 1), by omega, j + 1, by omega, rfl, hU, hb, gb, fun i a b hi ha hb => by
                         rcases Nat.lt_or_ge i j with h | h
                         · exact hall i a b h ha hb
                         · obtain rfl : i = j := by omega
                           rw [hgk] at ha; rw [hgj] at hb
                           injection ha with ha; injection hb with hb
                           subst ha hb
                           simpa using hc6, rfl⟩
                 · try (exfalso; first | (simp at hc4; done) | (simp only [decide_eq_true_eq, decide_eq_false_iff_not, Bool.not_eq_true', Bool.not_eq_false', Bool.not_eq_true, Bool.not_eq_false] at hc4; omega) | omega)
                   all_goals
                    try simp only [decide_eq_true_eq, decide_eq_false_iff_not, Bool.not_eq_true', Bool.not_eq_false', Bool.not_eq_true, Bool.not_eq_false, Option.isNone_none, Option.isNone_some, Option.isSome_none, Option.isSome_some, ne_eq, Decidable.not_not] at hc4
                    obtain rfl : j = ks.length := by omega
                    refine WC.exit ?_
                    refine WX.thenExit ?_
                    refine WX.thenExit ?_
                    refine WX.blockHere ?_
                    refine WX.next ?_
                    refine WC.seq ?_
                    refine WC.region ?_
                    refine WL.val rfl rfl rfl rfl (r_assign rfl ev_c) ?_
                    refine WL.nil ?_
                    refine WX.keep [(4, _)] ⟨rfl, trivial⟩ ?_
                    refine WX.next ?_
                    refine WC.ret ?_
                    refine WX.retE1 rfl rfl ?_
                    refine ⟨?_, hU⟩
                    have h9 : sameK (sameF f) ks js = true := (sameK_get _ _ hkj).2 fun i a b ha hb => hall i a b (List.getElem?_eq_some_iff.1 ha).1 ha hb
                    simp [sameF, h9, hnm, hvz]
end Go.Proofs.YtomkdhkkggbioaaGreatDoor
