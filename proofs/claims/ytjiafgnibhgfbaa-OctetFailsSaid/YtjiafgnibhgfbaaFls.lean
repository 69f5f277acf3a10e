/-
  octet: behind a fault, or Fail, nothing is read: the walk.
-/
import Derived.Test.YtjiafgnibhgfbaaAwo
import Derived.OpenShut
namespace Go.Proofs.Ytjiafgnibhgfbaa
open Go
set_option linter.unusedSimpArgs false
set_option linter.unusedVariables false

theorem fails_walk {w : World} {F : Nat → Prop} {p : Value} {l : List UInt8} {n : Int} (hr : Rd w F p l.length 1 (l.map U8)) (hF : ∀ k, F k → k < w.heap.size) (hn : inK .i64 n) :
    Ret Try.prog 14 #[p, .int .i64 n] w fun v w' => v = .bool true ∧ Upd No w w' := by
  have hFg : ¬ F w.heap.size := fun h => by have := hF _ h; omega
  refine enterRet (vs := [_, _]) (N := 66) Try.func14 rfl rfl rfl ?_
  have hU := Upd.refl No w
  refine WC.keep [(0, _), (1, _)] ⟨rfl, rfl, trivial⟩ ?_
  refine WC.seq ?_
  -- region 0 law.go:134
  refine WC.region ?_
  refine WL.val rfl rfl rfl rfl (r_assign rfl ev_c) ?_
  refine WL.nil ?_
  refine WX.keep [(0, _), (1, _)] ⟨rfl, rfl, trivial⟩ ?_
  refine WX.next ?_
  refine WC.seq ?_
  -- region 1 law.go:135
  refine WC.region ?_
  refine WL.val rfl rfl rfl rfl (r_move rfl (ev_t rfl)) ?_
  refine WL.cons (SO.call (newReader_ok hr) rfl body_34 ⟨(ev_t rfl), trivial⟩ rfl rfl rfl rfl ?_)
  rintro v w1 ⟨rfl, hI, hu1⟩
  have hs1 := hu1.size
  replace hU := hU.fresh hu1 (by first | exact (fun _ h => h.elim) | (intro k hk; simp only [At, New, Grow, From, No] at hk; omega))
  refine WL.val rfl rfl rfl rfl (r_assign rfl (ev_t rfl)) ?_
  refine WL.nil ?_
  refine WX.keep [(1, _), (5, _)] ⟨rfl, rfl, trivial⟩ ?_
  refine WX.next ?_
  refine WC.seq ?_
  -- region 2 law.go:136
  refine WC.region ?_
  refine WL.val rfl rfl rfl rfl (r_move rfl (ev_t rfl)) ?_
  refine WL.cons (SO.call (fail_ok hI) rfl body_46 ⟨(ev_t rfl), trivial⟩ rfl rfl rfl rfl ?_)
  rintro v w2 ⟨hI, hu2⟩
  have hs2 := hu2.size
  replace hU := hU.fresh hu2 (by first | exact (fun _ h => h.elim) | (intro k hk; simp only [At, New, Grow, From, No] at hk; omega))
  refine WL.nil ?_
  refine WX.keep [(1, _), (5, _)] ⟨rfl, rfl, trivial⟩ ?_
  refine WX.next ?_
  refine WC.seq ?_
  -- region 3 law.go:137
  refine WC.region ?_
  refine WL.val rfl rfl rfl rfl (r_assign rfl ev_c) ?_
  refine WL.nil ?_
  refine WX.keep [(1, _), (5, _), (6, _)] ⟨rfl, rfl, rfl, trivial⟩ ?_
  refine WX.next ?_
  refine WC.seq ?_
  -- region 4 law.go:138
  refine WC.region ?_
  refine WL.val rfl rfl rfl rfl (r_move rfl (ev_t rfl)) ?_
  refine WL.cons (SO.call (fail_nil _) rfl body_46 ⟨(ev_t rfl), trivial⟩ rfl rfl rfl rfl ?_)
  rintro v w3 rfl
  refine WL.nil ?_
  refine WX.keep [(1, _), (5, _), (6, _)] ⟨rfl, rfl, rfl, trivial⟩ ?_
  refine WX.next ?_
  refine WC.seq ?_
  -- region 5 law.go:139
  refine WC.region ?_
  refine WL.cons (SO.call (awake1_ok _) rfl body_19 trivial rfl rfl rfl rfl ?_)
  rintro v w4 ⟨rfl, hu4⟩
  have hs4 := hu4.size
  replace hU := hU.fresh hu4 (by first | exact (fun _ h => h.elim) | (intro k hk; simp only [At, New, Grow, From, No] at hk; omega))
  replace hI := hI.upd hu4 (fun h => h) (fun _ _ _ h => h)
  refine WL.val rfl rfl rfl rfl (r_move rfl (ev_t rfl)) ?_
  refine WL.cases 14 rfl (fun hb5_1 => ?_) (fun hb5_1 => ?_)
  · try (exfalso; first | (simp at hb5_1; done) | omega)
    all_goals
      try simp only [decide_eq_true_eq, decide_eq_false_iff_not, Bool.not_eq_true', Bool.not_eq_false', Bool.not_eq_true, Bool.not_eq_false, Option.isNone_none, Option.isNone_some, Option.isSome_none, Option.isSome_some, ne_eq, Decidable.not_not] at hb5_1
      refine WL.val rfl rfl rfl rfl (r_move rfl (ev_t rfl)) ?_
      refine WL.cons (SO.call (bad_ok hI) rfl body_44 ⟨(ev_t rfl), trivial⟩ rfl rfl rfl rfl ?_)
      rintro v w5 ⟨rfl, rfl⟩
      refine WL.val rfl rfl rfl rfl (r_pickT rfl (ev_t rfl) (ev_t rfl)) ?_
      refine WL.val rfl rfl rfl rfl (r_move rfl (ev_t rfl)) ?_
      refine WL.cases 18 rfl (fun hb5_5 => ?_) (fun hb5_5 => ?_)
      · try (exfalso; first | (simp at hb5_5; done) | omega)
        all_goals
          try simp only [decide_eq_true_eq, decide_eq_false_iff_not, Bool.not_eq_true', Bool.not_eq_false', Bool.not_eq_true, Bool.not_eq_false, Option.isNone_none, Option.isNone_some, Option.isSome_none, Option.isSome_some, ne_eq, Decidable.not_not] at hb5_5
          refine WL.val rfl rfl rfl rfl (r_move rfl (ev_t rfl)) ?_
          refine WL.cons (SO.call (end_ok hI) rfl body_45 ⟨(ev_t rfl), trivial⟩ rfl rfl rfl rfl ?_)
          rintro v w6 ⟨rfl, rfl⟩
          refine WL.val rfl rfl rfl rfl (r_not rfl (ev_t rfl)) ?_
          refine WL.val rfl rfl rfl rfl (r_pickT rfl (ev_t rfl) (ev_t rfl)) ?_
          refine WL.val rfl rfl rfl rfl (r_move rfl (ev_t rfl)) ?_
          refine WL.cases 23 rfl (fun hb5_10 => ?_) (fun hb5_10 => ?_)
          · try (exfalso; first | (simp at hb5_10; done) | omega)
            all_goals
              try simp only [decide_eq_true_eq, decide_eq_false_iff_not, Bool.not_eq_true', Bool.not_eq_false', Bool.not_eq_true, Bool.not_eq_false, Option.isNone_none, Option.isNone_some, Option.isSome_none, Option.isSome_some, ne_eq, Decidable.not_not] at hb5_10
              refine WL.val rfl rfl rfl rfl (r_move rfl (ev_t rfl)) ?_
              refine WL.cons (SO.call (ruint_ok hI hFg rfl) rfl body_35 ⟨(ev_t rfl), trivial⟩ rfl rfl rfl rfl ?_)
              rintro v w7 ⟨rfl, hI, hu7⟩
              have hs7 := hu7.size
              replace hU := hU.fresh hu7 (by first | exact (fun _ h => h.elim) | (intro k hk; simp only [At, New, Grow, From, No] at hk; omega))
              refine WL.val rfl rfl rfl rfl (r_eql rfl (ev_t rfl) ev_c) ?_
              refine WL.val rfl rfl rfl rfl (r_pickT rfl (ev_t rfl) (ev_t rfl)) ?_
              refine WL.val rfl rfl rfl rfl (r_move rfl (ev_t rfl)) ?_
              refine WL.cases 28 rfl (fun hb5_15 => ?_) (fun hb5_15 => ?_)
              · try (exfalso; first | (simp at hb5_15; done) | omega)
                all_goals
                  try simp only [decide_eq_true_eq, decide_eq_false_iff_not, Bool.not_eq_true', Bool.not_eq_false', Bool.not_eq_true, Bool.not_eq_false, Option.isNone_none, Option.isNone_some, Option.isSome_none, Option.isSome_some, ne_eq, Decidable.not_not] at hb5_15
                  refine WL.val rfl rfl rfl rfl (r_move rfl (ev_t rfl)) ?_
                  refine WL.cons (SO.call (int_ok hI hFg rfl) rfl body_37 ⟨(ev_t rfl), trivial⟩ rfl rfl rfl rfl ?_)
                  rintro v w8 ⟨rfl, hI, hu8⟩
                  have hs8 := hu8.size
                  replace hU := hU.fresh hu8 (by first | exact (fun _ h => h.elim) | (intro k hk; simp only [At, New, Grow, From, No] at hk; omega))
                  refine WL.val rfl rfl rfl rfl (r_eql rfl (ev_t rfl) ev_c) ?_
                  refine WL.val rfl rfl rfl rfl (r_pickT rfl (ev_t rfl) (ev_t rfl)) ?_
                  refine WL.val rfl rfl rfl rfl (r_move rfl (ev_t rfl)) ?_
                  refine WL.cases 33 rfl (fun hb5_20 => ?_) (fun hb5_20 => ?_)
                  · try (exfalso; first | (simp at hb5_20; done) | omega)
                    all_goals
                      try simp only [decide_eq_true_eq, decide_eq_false_iff_not, Bool.not_eq_true', Bool.not_eq_false', Bool.not_eq_true, Bool.not_eq_false, Option.isNone_none, Option.isNone_some, Option.isSome_none, Option.isSome_some, ne_eq, Decidable.not_not] at hb5_20
                      refine WL.val rfl rfl rfl rfl (r_move rfl (ev_t rfl)) ?_
                      refine WL.val rfl rfl rfl rfl (r_move rfl (ev_t rfl)) ?_
                      refine WL.cons (SO.call (bytes_ok hI hFg hn rfl) rfl body_41 ⟨(ev_t rfl), (ev_t rfl), trivial⟩ rfl rfl rfl rfl ?_)
                      rintro v w9 ⟨ho, hI, hu9, hle⟩
                      have hs9 := hu9.size
                      replace hU := hU.fresh hu9 (by first | exact (fun _ h => h.elim) | (intro k hk; simp only [At, New, Grow, From, No] at hk; omega))
                      obtain ⟨A1, c1, rfl, hc1⟩ := Own.form ho
                      refine WL.val rfl rfl rfl rfl (r_lenSlice (ts := #[]) rfl (ev_t rfl) elem_37) ?_
                      refine WL.val rfl rfl rfl rfl (r_eql rfl (ev_t rfl) ev_c) ?_
                      refine WL.val rfl rfl rfl rfl (r_pickT rfl (ev_t rfl) (ev_t rfl)) ?_
                      refine WL.val rfl rfl rfl rfl (r_move rfl (ev_t rfl)) ?_
                      refine WL.cases 40 rfl (fun hb5_27 => ?_) (fun hb5_27 => ?_)
                      · try (exfalso; first | (simp at hb5_27; done) | omega)
                        all_goals
                          try simp only [decide_eq_true_eq, decide_eq_false_iff_not, Bool.not_eq_true', Bool.not_eq_false', Bool.not_eq_true, Bool.not_eq_false, Option.isNone_none, Option.isNone_some, Option.isSome_none, Option.isSome_some, ne_eq, Decidable.not_not] at hb5_27
                          refine WL.val rfl rfl rfl rfl (r_move rfl (ev_t rfl)) ?_
                          refine WL.cons (SO.call (bad_nil _) rfl body_44 ⟨(ev_t rfl), trivial⟩ rfl rfl rfl rfl ?_)
                          rintro v w10 ⟨rfl, rfl⟩
                          refine WL.val rfl rfl rfl rfl (r_pickT rfl (ev_t rfl) (ev_t rfl)) ?_
                          refine WL.val rfl rfl rfl rfl (r_move rfl (ev_t rfl)) ?_
                          refine WL.cases 44 rfl (fun hb5_31 => ?_) (fun hb5_31 => ?_)
                          · try (exfalso; first | (simp at hb5_31; done) | omega)
                            all_goals
                              try simp only [decide_eq_true_eq, decide_eq_false_iff_not, Bool.not_eq_true', Bool.not_eq_false', Bool.not_eq_true, Bool.not_eq_false, Option.isNone_none, Option.isNone_some, Option.isSome_none, Option.isSome_some, ne_eq, Decidable.not_not] at hb5_31
                              refine WL.val rfl rfl rfl rfl (r_move rfl (ev_t rfl)) ?_
                              refine WL.cons (SO.call (end_nil _) rfl body_45 ⟨(ev_t rfl), trivial⟩ rfl rfl rfl rfl ?_)
                              rintro v w11 ⟨rfl, rfl⟩
                              refine WL.val rfl rfl rfl rfl (r_not rfl (ev_t rfl)) ?_
                              refine WL.val rfl rfl rfl rfl (r_pickT rfl (ev_t rfl) (ev_t rfl)) ?_
                              refine WL.val rfl rfl rfl rfl (r_move rfl (ev_t rfl)) ?_
                              refine WL.cases 49 rfl (fun hb5_36 => ?_) (fun hb5_36 => ?_)
                              · try (exfalso; first | (simp at hb5_36; done) | omega)
                                all_goals
                                  try simp only [decide_eq_true_eq, decide_eq_false_iff_not, Bool.not_eq_true', Bool.not_eq_false', Bool.not_eq_true, Bool.not_eq_false, Option.isNone_none, Option.isNone_some, Option.isSome_none, Option.isSome_some, ne_eq, Decidable.not_not] at hb5_36
                                  refine WL.val rfl rfl rfl rfl (r_move rfl (ev_t rfl)) ?_
                                  refine WL.cons (SO.call (ruint_nil _) rfl body_35 ⟨(ev_t rfl), trivial⟩ rfl rfl rfl rfl ?_)
                                  rintro v w12 ⟨rfl, rfl⟩
                                  refine WL.val rfl rfl rfl rfl (r_eql rfl (ev_t rfl) ev_c) ?_
                                  refine WL.val rfl rfl rfl rfl (r_pickT rfl (ev_t rfl) (ev_t rfl)) ?_
                                  refine WL.val rfl rfl rfl rfl (r_move rfl (ev_t rfl)) ?_
                                  refine WL.cases 54 rfl (fun hb5_41 => ?_) (fun hb5_41 => ?_)
                                  · try (exfalso; first | (simp at hb5_41; done) | omega)
                                    all_goals
                                      try simp only [decide_eq_true_eq, decide_eq_false_iff_not, Bool.not_eq_true', Bool.not_eq_false', Bool.not_eq_true, Bool.not_eq_false, Option.isNone_none, Option.isNone_some, Option.isSome_none, Option.isSome_some, ne_eq, Decidable.not_not] at hb5_41
                                      refine WL.val rfl rfl rfl rfl (r_move rfl (ev_t rfl)) ?_
                                      refine WL.val rfl rfl rfl rfl (r_move rfl (ev_t rfl)) ?_
                                      refine WL.cons (SO.call (upto_nil _ _) rfl body_39 ⟨(ev_t rfl), (ev_t rfl), trivial⟩ rfl rfl rfl rfl ?_)
                                      rintro v w13 ⟨rfl, rfl⟩
                                      refine WL.val rfl rfl rfl rfl (r_eql rfl (ev_t rfl) ev_c) ?_
                                      refine WL.val rfl rfl rfl rfl (r_pickT rfl (ev_t rfl) (ev_t rfl)) ?_
                                      refine WL.val rfl rfl rfl rfl (r_move rfl (ev_t rfl)) ?_
                                      refine WL.cases 60 rfl (fun hb5_47 => ?_) (fun hb5_47 => ?_)
                                      · try (exfalso; first | (simp at hb5_47; done) | omega)
                                        all_goals
                                          try simp only [decide_eq_true_eq, decide_eq_false_iff_not, Bool.not_eq_true', Bool.not_eq_false', Bool.not_eq_true, Bool.not_eq_false, Option.isNone_none, Option.isNone_some, Option.isSome_none, Option.isSome_some, ne_eq, Decidable.not_not] at hb5_47
                                          refine WL.val rfl rfl rfl rfl (r_move rfl (ev_t rfl)) ?_
                                          refine WL.val rfl rfl rfl rfl (r_move rfl (ev_t rfl)) ?_
                                          refine WL.cons (SO.call (text_nil _ _) rfl body_43 ⟨(ev_t rfl), (ev_t rfl), trivial⟩ rfl rfl rfl rfl ?_)
                                          rintro v w14 ⟨rfl, rfl⟩
                                          refine WL.val rfl rfl rfl rfl (r_eqlStr rfl (ev_t rfl) ev_c) ?_
                                          refine WL.val rfl rfl rfl rfl (r_pickT rfl (ev_t rfl) (ev_t rfl)) ?_
                                          refine WL.val rfl rfl rfl rfl (r_assign rfl (ev_t rfl)) ?_
                                          refine WL.nil ?_
                                          refine WX.keep [(4, _)] ⟨rfl, trivial⟩ ?_
                                          refine WX.next ?_
                                          refine WC.ret ?_
                                          refine WX.retE1 rfl rfl ?_
                                          exact ⟨by simp, hU⟩
                                      · try (exfalso; first | (simp at hb5_47; done) | omega)
                                        all_goals
                                          try simp only [decide_eq_true_eq, decide_eq_false_iff_not, Bool.not_eq_true', Bool.not_eq_false', Bool.not_eq_true, Bool.not_eq_false, Option.isNone_none, Option.isNone_some, Option.isSome_none, Option.isSome_some, ne_eq, Decidable.not_not] at hb5_47
                                          refine WL.skip rfl rfl rfl ?_
                                          refine WL.skip rfl rfl rfl ?_
                                          refine WL.skip rfl rfl rfl ?_
                                          refine WL.skip rfl rfl rfl ?_
                                          refine WL.val rfl rfl rfl rfl (r_pickF rfl (ev_t rfl) ev_c) ?_
                                          refine WL.val rfl rfl rfl rfl (r_assign rfl (ev_t rfl)) ?_
                                          refine WL.nil ?_
                                          refine WX.keep [(4, _)] ⟨rfl, trivial⟩ ?_
                                          refine WX.next ?_
                                          refine WC.ret ?_
                                          refine WX.retE1 rfl rfl ?_
                                          exact ⟨by simp, hU⟩
                                  · try (exfalso; first | (simp at hb5_41; done) | omega)
                                    all_goals
                                      try simp only [decide_eq_true_eq, decide_eq_false_iff_not, Bool.not_eq_true', Bool.not_eq_false', Bool.not_eq_true, Bool.not_eq_false, Option.isNone_none, Option.isNone_some, Option.isSome_none, Option.isSome_some, ne_eq, Decidable.not_not] at hb5_41
                                      refine WL.skip rfl rfl rfl ?_
                                      refine WL.skip rfl rfl rfl ?_
                                      refine WL.skip rfl rfl rfl ?_
                                      refine WL.skip rfl rfl rfl ?_
                                      refine WL.val rfl rfl rfl rfl (r_pickF rfl (ev_t rfl) ev_c) ?_
                                      refine WL.val rfl rfl rfl rfl (r_move rfl (ev_t rfl)) ?_
                                      refine WL.skip rfl rfl rfl ?_
                                      refine WL.skip rfl rfl rfl ?_
                                      refine WL.skip rfl rfl rfl ?_
                                      refine WL.skip rfl rfl rfl ?_
                                      refine WL.val rfl rfl rfl rfl (r_pickF rfl (ev_t rfl) ev_c) ?_
                                      refine WL.val rfl rfl rfl rfl (r_assign rfl (ev_t rfl)) ?_
                                      refine WL.nil ?_
                                      refine WX.keep [(4, _)] ⟨rfl, trivial⟩ ?_
                                      refine WX.next ?_
                                      refine WC.ret ?_
                                      refine WX.retE1 rfl rfl ?_
                                      exact ⟨by simp, hU⟩
                              · try (exfalso; first | (simp at hb5_36; done) | omega)
                                all_goals
                                  try simp only [decide_eq_true_eq, decide_eq_false_iff_not, Bool.not_eq_true', Bool.not_eq_false', Bool.not_eq_true, Bool.not_eq_false, Option.isNone_none, Option.isNone_some, Option.isSome_none, Option.isSome_some, ne_eq, Decidable.not_not] at hb5_36
                                  refine WL.skip rfl rfl rfl ?_
                                  refine WL.skip rfl rfl rfl ?_
                                  refine WL.skip rfl rfl rfl ?_
                                  refine WL.val rfl rfl rfl rfl (r_pickF rfl (ev_t rfl) ev_c) ?_
                                  refine WL.val rfl rfl rfl rfl (r_move rfl (ev_t rfl)) ?_
                                  refine WL.skip rfl rfl rfl ?_
                                  refine WL.skip rfl rfl rfl ?_
                                  refine WL.skip rfl rfl rfl ?_
                                  refine WL.skip rfl rfl rfl ?_
                                  refine WL.val rfl rfl rfl rfl (r_pickF rfl (ev_t rfl) ev_c) ?_
                                  refine WL.val rfl rfl rfl rfl (r_move rfl (ev_t rfl)) ?_
                                  refine WL.skip rfl rfl rfl ?_
                                  refine WL.skip rfl rfl rfl ?_
                                  refine WL.skip rfl rfl rfl ?_
                                  refine WL.skip rfl rfl rfl ?_
                                  refine WL.val rfl rfl rfl rfl (r_pickF rfl (ev_t rfl) ev_c) ?_
                                  refine WL.val rfl rfl rfl rfl (r_assign rfl (ev_t rfl)) ?_
                                  refine WL.nil ?_
                                  refine WX.keep [(4, _)] ⟨rfl, trivial⟩ ?_
                                  refine WX.next ?_
                                  refine WC.ret ?_
                                  refine WX.retE1 rfl rfl ?_
                                  exact ⟨by simp, hU⟩
                          · try (exfalso; first | (simp at hb5_31; done) | omega)
                            all_goals
                              try simp only [decide_eq_true_eq, decide_eq_false_iff_not, Bool.not_eq_true', Bool.not_eq_false', Bool.not_eq_true, Bool.not_eq_false, Option.isNone_none, Option.isNone_some, Option.isSome_none, Option.isSome_some, ne_eq, Decidable.not_not] at hb5_31
                              refine WL.skip rfl rfl rfl ?_
                              refine WL.skip rfl rfl rfl ?_
                              refine WL.skip rfl rfl rfl ?_
                              refine WL.val rfl rfl rfl rfl (r_pickF rfl (ev_t rfl) ev_c) ?_
                              refine WL.val rfl rfl rfl rfl (r_move rfl (ev_t rfl)) ?_
                              refine WL.skip rfl rfl rfl ?_
                              refine WL.skip rfl rfl rfl ?_
                              refine WL.skip rfl rfl rfl ?_
                              refine WL.val rfl rfl rfl rfl (r_pickF rfl (ev_t rfl) ev_c) ?_
                              refine WL.val rfl rfl rfl rfl (r_move rfl (ev_t rfl)) ?_
                              refine WL.skip rfl rfl rfl ?_
                              refine WL.skip rfl rfl rfl ?_
                              refine WL.skip rfl rfl rfl ?_
                              refine WL.skip rfl rfl rfl ?_
                              refine WL.val rfl rfl rfl rfl (r_pickF rfl (ev_t rfl) ev_c) ?_
                              refine WL.val rfl rfl rfl rfl (r_move rfl (ev_t rfl)) ?_
                              refine WL.skip rfl rfl rfl ?_
                              refine WL.skip rfl rfl rfl ?_
                              refine WL.skip rfl rfl rfl ?_
                              refine WL.skip rfl rfl rfl ?_
                              refine WL.val rfl rfl rfl rfl (r_pickF rfl (ev_t rfl) ev_c) ?_
                              refine WL.val rfl rfl rfl rfl (r_assign rfl (ev_t rfl)) ?_
                              refine WL.nil ?_
                              refine WX.keep [(4, _)] ⟨rfl, trivial⟩ ?_
                              refine WX.next ?_
                              refine WC.ret ?_
                              refine WX.retE1 rfl rfl ?_
                              exact ⟨by simp, hU⟩
                      · try (exfalso; first | (simp at hb5_27; done) | omega)
                        all_goals
                          try simp only [decide_eq_true_eq, decide_eq_false_iff_not, Bool.not_eq_true', Bool.not_eq_false', Bool.not_eq_true, Bool.not_eq_false, Option.isNone_none, Option.isNone_some, Option.isSome_none, Option.isSome_some, ne_eq, Decidable.not_not] at hb5_27
                          refine WL.skip rfl rfl rfl ?_
                          refine WL.skip rfl rfl rfl ?_
                          refine WL.val rfl rfl rfl rfl (r_pickF rfl (ev_t rfl) ev_c) ?_
                          refine WL.val rfl rfl rfl rfl (r_move rfl (ev_t rfl)) ?_
                          refine WL.skip rfl rfl rfl ?_
                          refine WL.skip rfl rfl rfl ?_
                          refine WL.skip rfl rfl rfl ?_
                          refine WL.val rfl rfl rfl rfl (r_pickF rfl (ev_t rfl) ev_c) ?_
                          refine WL.val rfl rfl rfl rfl (r_move rfl (ev_t rfl)) ?_
                          refine WL.skip rfl rfl rfl ?_
                          refine WL.skip rfl rfl rfl ?_
                          refine WL.skip rfl rfl rfl ?_
                          refine WL.val rfl rfl rfl rfl (r_pickF rfl (ev_t rfl) ev_c) ?_
                          refine WL.val rfl rfl rfl rfl (r_move rfl (ev_t rfl)) ?_
                          refine WL.skip rfl rfl rfl ?_
                          refine WL.skip rfl rfl rfl ?_
                          refine WL.skip rfl rfl rfl ?_
                          refine WL.skip rfl rfl rfl ?_
                          refine WL.val rfl rfl rfl rfl (r_pickF rfl (ev_t rfl) ev_c) ?_
                          refine WL.val rfl rfl rfl rfl (r_move rfl (ev_t rfl)) ?_
                          refine WL.skip rfl rfl rfl ?_
                          refine WL.skip rfl rfl rfl ?_
                          refine WL.skip rfl rfl rfl ?_
                          refine WL.skip rfl rfl rfl ?_
                          refine WL.val rfl rfl rfl rfl (r_pickF rfl (ev_t rfl) ev_c) ?_
                          refine WL.val rfl rfl rfl rfl (r_assign rfl (ev_t rfl)) ?_
                          refine WL.nil ?_
                          refine WX.keep [(4, _)] ⟨rfl, trivial⟩ ?_
                          refine WX.next ?_
                          refine WC.ret ?_
                          refine WX.retE1 rfl rfl ?_
                          exact ⟨by simp, hU⟩
                  · try simp only [decide_eq_true_eq, decide_eq_false_iff_not, Bool.not_eq_true', Bool.not_eq_false', Bool.not_eq_true, Bool.not_eq_false, Option.isNone_none, Option.isNone_some, Option.isSome_none, Option.isSome_some, ne_eq, Decidable.not_not] at hb5_20
                    exact absurd rfl hb5_20
              · try (exfalso; first | (simp at hb5_15; done) | omega)
                all_goals
                  try simp only [decide_eq_true_eq, decide_eq_false_iff_not, Bool.not_eq_true', Bool.not_eq_false', Bool.not_eq_true, Bool.not_eq_false, Option.isNone_none, Option.isNone_some, Option.isSome_none, Option.isSome_some, ne_eq, Decidable.not_not] at hb5_15
                  refine WL.skip rfl rfl rfl ?_
                  refine WL.skip rfl rfl rfl ?_
                  refine WL.skip rfl rfl rfl ?_
                  refine WL.val rfl rfl rfl rfl (r_pickF rfl (ev_t rfl) ev_c) ?_
                  refine WL.val rfl rfl rfl rfl (r_move rfl (ev_t rfl)) ?_
                  refine WL.skip rfl rfl rfl ?_
                  refine WL.skip rfl rfl rfl ?_
                  refine WL.skip rfl rfl rfl ?_
                  refine WL.skip rfl rfl rfl ?_
                  refine WL.skip rfl rfl rfl ?_
                  refine WL.val rfl rfl rfl rfl (r_pickF rfl (ev_t rfl) ev_c) ?_
                  refine WL.val rfl rfl rfl rfl (r_move rfl (ev_t rfl)) ?_
                  refine WL.skip rfl rfl rfl ?_
                  refine WL.skip rfl rfl rfl ?_
                  refine WL.val rfl rfl rfl rfl (r_pickF rfl (ev_t rfl) ev_c) ?_
                  refine WL.val rfl rfl rfl rfl (r_move rfl (ev_t rfl)) ?_
                  refine WL.skip rfl rfl rfl ?_
                  refine WL.skip rfl rfl rfl ?_
                  refine WL.skip rfl rfl rfl ?_
                  refine WL.val rfl rfl rfl rfl (r_pickF rfl (ev_t rfl) ev_c) ?_
                  refine WL.val rfl rfl rfl rfl (r_move rfl (ev_t rfl)) ?_
                  refine WL.skip rfl rfl rfl ?_
                  refine WL.skip rfl rfl rfl ?_
                  refine WL.skip rfl rfl rfl ?_
                  refine WL.val rfl rfl rfl rfl (r_pickF rfl (ev_t rfl) ev_c) ?_
                  refine WL.val rfl rfl rfl rfl (r_move rfl (ev_t rfl)) ?_
                  refine WL.skip rfl rfl rfl ?_
                  refine WL.skip rfl rfl rfl ?_
                  refine WL.skip rfl rfl rfl ?_
                  refine WL.skip rfl rfl rfl ?_
                  refine WL.val rfl rfl rfl rfl (r_pickF rfl (ev_t rfl) ev_c) ?_
                  refine WL.val rfl rfl rfl rfl (r_move rfl (ev_t rfl)) ?_
                  refine WL.skip rfl rfl rfl ?_
                  refine WL.skip rfl rfl rfl ?_
                  refine WL.skip rfl rfl rfl ?_
                  refine WL.skip rfl rfl rfl ?_
                  refine WL.val rfl rfl rfl rfl (r_pickF rfl (ev_t rfl) ev_c) ?_
                  refine WL.val rfl rfl rfl rfl (r_assign rfl (ev_t rfl)) ?_
                  refine WL.nil ?_
                  refine WX.keep [(4, _)] ⟨rfl, trivial⟩ ?_
                  refine WX.next ?_
                  refine WC.ret ?_
                  refine WX.retE1 rfl rfl ?_
                  exact ⟨by simp, hU⟩
          · try (exfalso; first | (simp at hb5_10; done) | omega)
            all_goals
              try simp only [decide_eq_true_eq, decide_eq_false_iff_not, Bool.not_eq_true', Bool.not_eq_false', Bool.not_eq_true, Bool.not_eq_false, Option.isNone_none, Option.isNone_some, Option.isSome_none, Option.isSome_some, ne_eq, Decidable.not_not] at hb5_10
              refine WL.skip rfl rfl rfl ?_
              refine WL.skip rfl rfl rfl ?_
              refine WL.skip rfl rfl rfl ?_
              refine WL.val rfl rfl rfl rfl (r_pickF rfl (ev_t rfl) ev_c) ?_
              refine WL.val rfl rfl rfl rfl (r_move rfl (ev_t rfl)) ?_
              refine WL.skip rfl rfl rfl ?_
              refine WL.skip rfl rfl rfl ?_
              refine WL.skip rfl rfl rfl ?_
              refine WL.val rfl rfl rfl rfl (r_pickF rfl (ev_t rfl) ev_c) ?_
              refine WL.val rfl rfl rfl rfl (r_move rfl (ev_t rfl)) ?_
              refine WL.skip rfl rfl rfl ?_
              refine WL.skip rfl rfl rfl ?_
              refine WL.skip rfl rfl rfl ?_
              refine WL.skip rfl rfl rfl ?_
              refine WL.skip rfl rfl rfl ?_
              refine WL.val rfl rfl rfl rfl (r_pickF rfl (ev_t rfl) ev_c) ?_
              refine WL.val rfl rfl rfl rfl (r_move rfl (ev_t rfl)) ?_
              refine WL.skip rfl rfl rfl ?_
              refine WL.skip rfl rfl rfl ?_
              refine WL.val rfl rfl rfl rfl (r_pickF rfl (ev_t rfl) ev_c) ?_
              refine WL.val rfl rfl rfl rfl (r_move rfl (ev_t rfl)) ?_
              refine WL.skip rfl rfl rfl ?_
              refine WL.skip rfl rfl rfl ?_
              refine WL.skip rfl rfl rfl ?_
              refine WL.val rfl rfl rfl rfl (r_pickF rfl (ev_t rfl) ev_c) ?_
              refine WL.val rfl rfl rfl rfl (r_move rfl (ev_t rfl)) ?_
              refine WL.skip rfl rfl rfl ?_
              refine WL.skip rfl rfl rfl ?_
              refine WL.skip rfl rfl rfl ?_
              refine WL.val rfl rfl rfl rfl (r_pickF rfl (ev_t rfl) ev_c) ?_
              refine WL.val rfl rfl rfl rfl (r_move rfl (ev_t rfl)) ?_
              refine WL.skip rfl rfl rfl ?_
              refine WL.skip rfl rfl rfl ?_
              refine WL.skip rfl rfl rfl ?_
              refine WL.skip rfl rfl rfl ?_
              refine WL.val rfl rfl rfl rfl (r_pickF rfl (ev_t rfl) ev_c) ?_
              refine WL.val rfl rfl rfl rfl (r_move rfl (ev_t rfl)) ?_
              refine WL.skip rfl rfl rfl ?_
              refine WL.skip rfl rfl rfl ?_
              refine WL.skip rfl rfl rfl ?_
              refine WL.skip rfl rfl rfl ?_
              refine WL.val rfl rfl rfl rfl (r_pickF rfl (ev_t rfl) ev_c) ?_
              refine WL.val rfl rfl rfl rfl (r_assign rfl (ev_t rfl)) ?_
              refine WL.nil ?_
              refine WX.keep [(4, _)] ⟨rfl, trivial⟩ ?_
              refine WX.next ?_
              refine WC.ret ?_
              refine WX.retE1 rfl rfl ?_
              exact ⟨by simp, hU⟩
      · try (exfalso; first | (simp at hb5_5; done) | omega)
        all_goals
          try simp only [decide_eq_true_eq, decide_eq_false_iff_not, Bool.not_eq_true', Bool.not_eq_false', Bool.not_eq_true, Bool.not_eq_false, Option.isNone_none, Option.isNone_some, Option.isSome_none, Option.isSome_some, ne_eq, Decidable.not_not] at hb5_5
          refine WL.skip rfl rfl rfl ?_
          refine WL.skip rfl rfl rfl ?_
          refine WL.skip rfl rfl rfl ?_
          refine WL.val rfl rfl rfl rfl (r_pickF rfl (ev_t rfl) ev_c) ?_
          refine WL.val rfl rfl rfl rfl (r_move rfl (ev_t rfl)) ?_
          refine WL.skip rfl rfl rfl ?_
          refine WL.skip rfl rfl rfl ?_
          refine WL.skip rfl rfl rfl ?_
          refine WL.val rfl rfl rfl rfl (r_pickF rfl (ev_t rfl) ev_c) ?_
          refine WL.val rfl rfl rfl rfl (r_move rfl (ev_t rfl)) ?_
          refine WL.skip rfl rfl rfl ?_
          refine WL.skip rfl rfl rfl ?_
          refine WL.skip rfl rfl rfl ?_
          refine WL.val rfl rfl rfl rfl (r_pickF rfl (ev_t rfl) ev_c) ?_
          refine WL.val rfl rfl rfl rfl (r_move rfl (ev_t rfl)) ?_
          refine WL.skip rfl rfl rfl ?_
          refine WL.skip rfl rfl rfl ?_
          refine WL.skip rfl rfl rfl ?_
          refine WL.skip rfl rfl rfl ?_
          refine WL.skip rfl rfl rfl ?_
          refine WL.val rfl rfl rfl rfl (r_pickF rfl (ev_t rfl) ev_c) ?_
          refine WL.val rfl rfl rfl rfl (r_move rfl (ev_t rfl)) ?_
          refine WL.skip rfl rfl rfl ?_
          refine WL.skip rfl rfl rfl ?_
          refine WL.val rfl rfl rfl rfl (r_pickF rfl (ev_t rfl) ev_c) ?_
          refine WL.val rfl rfl rfl rfl (r_move rfl (ev_t rfl)) ?_
          refine WL.skip rfl rfl rfl ?_
          refine WL.skip rfl rfl rfl ?_
          refine WL.skip rfl rfl rfl ?_
          refine WL.val rfl rfl rfl rfl (r_pickF rfl (ev_t rfl) ev_c) ?_
          refine WL.val rfl rfl rfl rfl (r_move rfl (ev_t rfl)) ?_
          refine WL.skip rfl rfl rfl ?_
          refine WL.skip rfl rfl rfl ?_
          refine WL.skip rfl rfl rfl ?_
          refine WL.val rfl rfl rfl rfl (r_pickF rfl (ev_t rfl) ev_c) ?_
          refine WL.val rfl rfl rfl rfl (r_move rfl (ev_t rfl)) ?_
          refine WL.skip rfl rfl rfl ?_
          refine WL.skip rfl rfl rfl ?_
          refine WL.skip rfl rfl rfl ?_
          refine WL.skip rfl rfl rfl ?_
          refine WL.val rfl rfl rfl rfl (r_pickF rfl (ev_t rfl) ev_c) ?_
          refine WL.val rfl rfl rfl rfl (r_move rfl (ev_t rfl)) ?_
          refine WL.skip rfl rfl rfl ?_
          refine WL.skip rfl rfl rfl ?_
          refine WL.skip rfl rfl rfl ?_
          refine WL.skip rfl rfl rfl ?_
          refine WL.val rfl rfl rfl rfl (r_pickF rfl (ev_t rfl) ev_c) ?_
          refine WL.val rfl rfl rfl rfl (r_assign rfl (ev_t rfl)) ?_
          refine WL.nil ?_
          refine WX.keep [(4, _)] ⟨rfl, trivial⟩ ?_
          refine WX.next ?_
          refine WC.ret ?_
          refine WX.retE1 rfl rfl ?_
          exact ⟨by simp, hU⟩
  · try (exfalso; first | (simp at hb5_1; done) | omega)
    all_goals
      try simp only [decide_eq_true_eq, decide_eq_false_iff_not, Bool.not_eq_true', Bool.not_eq_false', Bool.not_eq_true, Bool.not_eq_false, Option.isNone_none, Option.isNone_some, Option.isSome_none, Option.isSome_some, ne_eq, Decidable.not_not] at hb5_1
      refine WL.skip rfl rfl rfl ?_
      refine WL.skip rfl rfl rfl ?_
      refine WL.val rfl rfl rfl rfl (r_pickF rfl (ev_t rfl) ev_c) ?_
      refine WL.val rfl rfl rfl rfl (r_move rfl (ev_t rfl)) ?_
      refine WL.skip rfl rfl rfl ?_
      refine WL.skip rfl rfl rfl ?_
      refine WL.skip rfl rfl rfl ?_
      refine WL.val rfl rfl rfl rfl (r_pickF rfl (ev_t rfl) ev_c) ?_
      refine WL.val rfl rfl rfl rfl (r_move rfl (ev_t rfl)) ?_
      refine WL.skip rfl rfl rfl ?_
      refine WL.skip rfl rfl rfl ?_
      refine WL.skip rfl rfl rfl ?_
      refine WL.val rfl rfl rfl rfl (r_pickF rfl (ev_t rfl) ev_c) ?_
      refine WL.val rfl rfl rfl rfl (r_move rfl (ev_t rfl)) ?_
      refine WL.skip rfl rfl rfl ?_
      refine WL.skip rfl rfl rfl ?_
      refine WL.skip rfl rfl rfl ?_
      refine WL.val rfl rfl rfl rfl (r_pickF rfl (ev_t rfl) ev_c) ?_
      refine WL.val rfl rfl rfl rfl (r_move rfl (ev_t rfl)) ?_
      refine WL.skip rfl rfl rfl ?_
      refine WL.skip rfl rfl rfl ?_
      refine WL.skip rfl rfl rfl ?_
      refine WL.skip rfl rfl rfl ?_
      refine WL.skip rfl rfl rfl ?_
      refine WL.val rfl rfl rfl rfl (r_pickF rfl (ev_t rfl) ev_c) ?_
      refine WL.val rfl rfl rfl rfl (r_move rfl (ev_t rfl)) ?_
      refine WL.skip rfl rfl rfl ?_
      refine WL.skip rfl rfl rfl ?_
      refine WL.val rfl rfl rfl rfl (r_pickF rfl (ev_t rfl) ev_c) ?_
      refine WL.val rfl rfl rfl rfl (r_move rfl (ev_t rfl)) ?_
      refine WL.skip rfl rfl rfl ?_
      refine WL.skip rfl rfl rfl ?_
      refine WL.skip rfl rfl rfl ?_
      refine WL.val rfl rfl rfl rfl (r_pickF rfl (ev_t rfl) ev_c) ?_
      refine WL.val rfl rfl rfl rfl (r_move rfl (ev_t rfl)) ?_
      refine WL.skip rfl rfl rfl ?_
      refine WL.skip rfl rfl rfl ?_
      refine WL.skip rfl rfl rfl ?_
      refine WL.val rfl rfl rfl rfl (r_pickF rfl (ev_t rfl) ev_c) ?_
      refine WL.val rfl rfl rfl rfl (r_move rfl (ev_t rfl)) ?_
      refine WL.skip rfl rfl rfl ?_
      refine WL.skip rfl rfl rfl ?_
      refine WL.skip rfl rfl rfl ?_
      refine WL.skip rfl rfl rfl ?_
      refine WL.val rfl rfl rfl rfl (r_pickF rfl (ev_t rfl) ev_c) ?_
      refine WL.val rfl rfl rfl rfl (r_move rfl (ev_t rfl)) ?_
      refine WL.skip rfl rfl rfl ?_
      refine WL.skip rfl rfl rfl ?_
      refine WL.skip rfl rfl rfl ?_
      refine WL.skip rfl rfl rfl ?_
      refine WL.val rfl rfl rfl rfl (r_pickF rfl (ev_t rfl) ev_c) ?_
      refine WL.val rfl rfl rfl rfl (r_assign rfl (ev_t rfl)) ?_
      refine WL.nil ?_
      refine WX.keep [(4, _)] ⟨rfl, trivial⟩ ?_
      refine WX.next ?_
      refine WC.ret ?_
      refine WX.retE1 rfl rfl ?_
      exact ⟨by simp, hU⟩

theorem octetFails.walk {W : World} {p : Value} {l : List UInt8} {a : Int} (hr : Rd W (fun k => k < W.heap.size) p l.length 1 (l.map U8)) (hl : l.length ≤ 140737488351232) (h1 : (Lit.int .i64 a).wf = true) :
    Ret Try.prog 14 #[p, .int .i64 a] W fun v W' => v = .bool true ∧ Upd No W W' :=
  fails_walk hr (fun k hk => hk) (by have := bounds_i64 h1; simp only [inK]; omega)
end Go.Proofs.Ytjiafgnibhgfbaa
