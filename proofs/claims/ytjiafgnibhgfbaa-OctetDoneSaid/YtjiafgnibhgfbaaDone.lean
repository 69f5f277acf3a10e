/-
  octet: what was laid is told as often as one asks, and apart: the walk.
-/
import Derived.Test.YtjiafgnibhgfbaaAwo
import Derived.Test.YtjiafgnibhgfbaaFh
import Derived.OpenShut
namespace Go.Proofs.Ytjiafgnibhgfbaa
open Go
set_option linter.unusedSimpArgs false
set_option linter.unusedVariables false

theorem done_walk {w : World} {F F' : Nat → Prop} {p q : Value} {a b : List UInt8} (hr1 : Rd w F p a.length 1 (a.map U8)) (hr2 : Rd w F' q b.length 1 (b.map U8)) (hF : ∀ k, F k → k < w.heap.size) (hF' : ∀ k, F' k → k < w.heap.size) (ha : a.length ≤ 140737488351232) (hb : b.length ≤ 140737488351232) :
    Ret Try.prog 7 #[p, q] w fun v w' => v = .bool true ∧ Upd No w w' := by
  have la := encU_length a.length
  have lb := encU_length b.length
  have ma : blen a.length ≤ 8 := blen_le (by omega)
  have mb : blen b.length ≤ 8 := blen_le (by omega)
  obtain ⟨A1, c1, rfl, hle1⟩ := hr1.slice_form
  obtain ⟨A2, c2, rfl, hle2⟩ := hr2.slice_form
  have lea : (encU a.length ++ a).length = blen a.length + 1 + a.length := by simp [la]
  have leb : (encU b.length ++ b).length = blen b.length + 1 + b.length := by simp [lb]
  have hse : (ByteArray.mk (encU a.length ++ a).toArray).size = (encU a.length ++ a).length := rfl
  refine enterRet (vs := [_, _]) (N := 86) Try.func7 rfl rfl rfl ?_
  have hU := Upd.refl No w
  refine WC.keep [(0, _), (1, _)] ⟨rfl, rfl, trivial⟩ ?_
  refine WC.seq ?_
  -- region 0 more.go:8
  refine WC.region ?_
  refine WL.val rfl rfl rfl rfl (r_assign rfl ev_c) ?_
  refine WL.nil ?_
  refine WX.keep [(0, _), (1, _)] ⟨rfl, rfl, trivial⟩ ?_
  refine WX.next ?_
  refine WC.seq ?_
  refine WC.seq ?_
  -- region 1 more.go:9
  refine WC.region ?_
  refine WL.cons (SO.call (awake1_ok _) rfl body_19 trivial rfl rfl rfl rfl ?_)
  rintro v w1 ⟨rfl, hu1⟩
  have hs1 := hu1.size
  replace hU := hU.fresh hu1 (by first | exact (fun _ h => h.elim) | (intro k hk; simp only [At, New, Grow, From, No] at hk; omega))
  replace hr1 := hr1.upd hu1 (by first | exact (fun _ _ _ h => h) | (intro k hk hl hS; have := hF k hk; simp only [At, New, Grow, From, No] at hS; omega))
  replace hr2 := hr2.upd hu1 (by first | exact (fun _ _ _ h => h) | (intro k hk hl hS; have := hF' k hk; simp only [At, New, Grow, From, No] at hS; omega))
  refine WL.val rfl rfl rfl rfl (r_not rfl (ev_t rfl)) ?_
  refine WL.val rfl rfl rfl rfl (r_move rfl (ev_t rfl)) ?_
  refine WL.cases 13 rfl (fun hb1_2 => ?_) (fun hb1_2 => ?_)
  · try (exfalso; first | (simp at hb1_2; done) | (simp only [decide_eq_true_eq, decide_eq_false_iff_not, Bool.not_eq_true', Bool.not_eq_false', Bool.not_eq_true, Bool.not_eq_false] at hb1_2; omega) | omega)
    all_goals
      try simp only [decide_eq_true_eq, decide_eq_false_iff_not, Bool.not_eq_true', Bool.not_eq_false', Bool.not_eq_true, Bool.not_eq_false, Option.isNone_none, Option.isNone_some, Option.isSome_none, Option.isSome_some, ne_eq, Decidable.not_not] at hb1_2
      refine WL.skip rfl rfl rfl ?_
      refine WL.skip rfl rfl rfl ?_
      refine WL.skip rfl rfl rfl ?_
      refine WL.val rfl rfl rfl rfl (r_pickT rfl (ev_t rfl) ev_c) ?_
      refine WL.val rfl rfl rfl rfl (r_move rfl (ev_t rfl)) ?_
      refine WL.skip rfl rfl rfl ?_
      refine WL.skip rfl rfl rfl ?_
      refine WL.skip rfl rfl rfl ?_
      refine WL.skip rfl rfl rfl ?_
      refine WL.skip rfl rfl rfl ?_
      refine WL.skip rfl rfl rfl ?_
      refine WL.val rfl rfl rfl rfl (r_pickT rfl (ev_t rfl) ev_c) ?_
      refine WL.nil ?_
      refine WX.keep [(0, _), (1, _), (25, _)] ⟨rfl, rfl, rfl, trivial⟩ ?_
      refine WX.next ?_
      refine WC.cond_true rfl (ev_t rfl) ?_
      refine WC.seq ?_
      -- region 2 more.go:10
      refine WC.region ?_
      refine WL.cons (SO.call (awake1_ok _) rfl body_19 trivial rfl rfl rfl rfl ?_)
      rintro v w2 ⟨rfl, hu2⟩
      have hs2 := hu2.size
      replace hU := hU.fresh hu2 (by first | exact (fun _ h => h.elim) | (intro k hk; simp only [At, New, Grow, From, No] at hk; omega))
      replace hr1 := hr1.upd hu2 (by first | exact (fun _ _ _ h => h) | (intro k hk hl hS; have := hF k hk; simp only [At, New, Grow, From, No] at hS; omega))
      replace hr2 := hr2.upd hu2 (by first | exact (fun _ _ _ h => h) | (intro k hk hl hS; have := hF' k hk; simp only [At, New, Grow, From, No] at hS; omega))
      refine WL.val rfl rfl rfl rfl (r_assign rfl (ev_t rfl)) ?_
      refine WL.nil ?_
      refine WX.keep [(4, _)] ⟨rfl, trivial⟩ ?_
      refine WX.next ?_
      refine WC.ret ?_
      refine WX.thenRet ?_
      refine WX.retE1 rfl rfl ?_
      exact ⟨rfl, hU⟩
  · try (exfalso; first | (simp at hb1_2; done) | (simp only [decide_eq_true_eq, decide_eq_false_iff_not, Bool.not_eq_true', Bool.not_eq_false', Bool.not_eq_true, Bool.not_eq_false] at hb1_2; omega) | omega)
    all_goals
      try simp only [decide_eq_true_eq, decide_eq_false_iff_not, Bool.not_eq_true', Bool.not_eq_false', Bool.not_eq_true, Bool.not_eq_false, Option.isNone_none, Option.isNone_some, Option.isSome_none, Option.isSome_some, ne_eq, Decidable.not_not] at hb1_2
      refine WL.val rfl rfl rfl rfl (r_move rfl (ev_t rfl)) ?_
      refine WL.val rfl rfl rfl rfl (r_lenSlice (ts := #[]) rfl (ev_t rfl) elem_37) ?_
      refine WL.val rfl rfl rfl rfl (r_eql rfl (ev_t rfl) ev_c) ?_
      refine WL.val rfl rfl rfl rfl (r_pickF rfl (ev_t rfl) (ev_t rfl)) ?_
      refine WL.val rfl rfl rfl rfl (r_move rfl (ev_t rfl)) ?_
      refine WL.cases 18 rfl (fun hb1_7 => ?_) (fun hb1_7 => ?_)
      · try (exfalso; first | (simp at hb1_7; done) | (simp only [decide_eq_true_eq, decide_eq_false_iff_not, Bool.not_eq_true', Bool.not_eq_false', Bool.not_eq_true, Bool.not_eq_false] at hb1_7; omega) | omega)
        all_goals
          try simp only [decide_eq_true_eq, decide_eq_false_iff_not, Bool.not_eq_true', Bool.not_eq_false', Bool.not_eq_true, Bool.not_eq_false, Option.isNone_none, Option.isNone_some, Option.isSome_none, Option.isSome_some, ne_eq, Decidable.not_not] at hb1_7
          refine WL.skip rfl rfl rfl ?_
          refine WL.skip rfl rfl rfl ?_
          refine WL.skip rfl rfl rfl ?_
          refine WL.skip rfl rfl rfl ?_
          refine WL.skip rfl rfl rfl ?_
          refine WL.skip rfl rfl rfl ?_
          refine WL.val rfl rfl rfl rfl (r_pickT rfl (ev_t rfl) ev_c) ?_
          refine WL.nil ?_
          refine WX.keep [(0, _), (1, _), (25, _)] ⟨rfl, rfl, rfl, trivial⟩ ?_
          refine WX.next ?_
          refine WC.cond_true rfl (ev_t rfl) ?_
          refine WC.seq ?_
          -- region 2 more.go:10
          refine WC.region ?_
          refine WL.cons (SO.call (awake1_ok _) rfl body_19 trivial rfl rfl rfl rfl ?_)
          rintro v w3 ⟨rfl, hu3⟩
          have hs3 := hu3.size
          replace hU := hU.fresh hu3 (by first | exact (fun _ h => h.elim) | (intro k hk; simp only [At, New, Grow, From, No] at hk; omega))
          replace hr1 := hr1.upd hu3 (by first | exact (fun _ _ _ h => h) | (intro k hk hl hS; have := hF k hk; simp only [At, New, Grow, From, No] at hS; omega))
          replace hr2 := hr2.upd hu3 (by first | exact (fun _ _ _ h => h) | (intro k hk hl hS; have := hF' k hk; simp only [At, New, Grow, From, No] at hS; omega))
          refine WL.val rfl rfl rfl rfl (r_assign rfl (ev_t rfl)) ?_
          refine WL.nil ?_
          refine WX.keep [(4, _)] ⟨rfl, trivial⟩ ?_
          refine WX.next ?_
          refine WC.ret ?_
          refine WX.thenRet ?_
          refine WX.retE1 rfl rfl ?_
          exact ⟨rfl, hU⟩
      · try (exfalso; first | (simp at hb1_7; done) | (simp only [decide_eq_true_eq, decide_eq_false_iff_not, Bool.not_eq_true', Bool.not_eq_false', Bool.not_eq_true, Bool.not_eq_false] at hb1_7; omega) | omega)
        all_goals
          try simp only [decide_eq_true_eq, decide_eq_false_iff_not, Bool.not_eq_true', Bool.not_eq_false', Bool.not_eq_true, Bool.not_eq_false, Option.isNone_none, Option.isNone_some, Option.isSome_none, Option.isSome_some, ne_eq, Decidable.not_not] at hb1_7
          refine WL.val rfl rfl rfl rfl (r_move rfl (ev_t rfl)) ?_
          refine WL.val rfl rfl rfl rfl (r_lenSlice (ts := #[]) rfl (ev_t rfl) elem_37) ?_
          refine WL.val rfl rfl rfl rfl (r_move rfl (ev_t rfl)) ?_
          refine WL.val rfl rfl rfl rfl (r_lenSlice (ts := #[]) rfl (ev_t rfl) elem_37) ?_
          first | refine WL.val rfl rfl rfl rfl (r_addN rfl (ev_t rfl) (ev_t rfl) (by simp only [inK]; omega)) ?_ | refine WL.val rfl rfl rfl rfl (r_add rfl (ev_t rfl) (ev_t rfl)) ?_
          refine WL.val rfl rfl rfl rfl (r_gtr rfl (ev_t rfl) ev_c) ?_
          refine WL.val rfl rfl rfl rfl (r_pickF rfl (ev_t rfl) (ev_t rfl)) ?_
          refine WL.nil ?_
          refine WX.keep [(0, _), (1, _), (25, _)] ⟨rfl, rfl, rfl, trivial⟩ ?_
          refine WX.next ?_
          refine WC.cond rfl (ev_t rfl) (fun hc1 => ?_) (fun hc1 => ?_)
          · try (exfalso; first | (simp at hc1; done) | (simp only [decide_eq_true_eq, decide_eq_false_iff_not, Bool.not_eq_true', Bool.not_eq_false', Bool.not_eq_true, Bool.not_eq_false] at hc1; omega) | omega)
            all_goals
              try simp only [decide_eq_true_eq, decide_eq_false_iff_not, Bool.not_eq_true', Bool.not_eq_false', Bool.not_eq_true, Bool.not_eq_false, Option.isNone_none, Option.isNone_some, Option.isSome_none, Option.isSome_some, ne_eq, Decidable.not_not] at hc1
              refine WC.seq ?_
              -- region 2 more.go:10
              refine WC.region ?_
              refine WL.cons (SO.call (awake1_ok _) rfl body_19 trivial rfl rfl rfl rfl ?_)
              rintro v w4 ⟨rfl, hu4⟩
              have hs4 := hu4.size
              replace hU := hU.fresh hu4 (by first | exact (fun _ h => h.elim) | (intro k hk; simp only [At, New, Grow, From, No] at hk; omega))
              replace hr1 := hr1.upd hu4 (by first | exact (fun _ _ _ h => h) | (intro k hk hl hS; have := hF k hk; simp only [At, New, Grow, From, No] at hS; omega))
              replace hr2 := hr2.upd hu4 (by first | exact (fun _ _ _ h => h) | (intro k hk hl hS; have := hF' k hk; simp only [At, New, Grow, From, No] at hS; omega))
              refine WL.val rfl rfl rfl rfl (r_assign rfl (ev_t rfl)) ?_
              refine WL.nil ?_
              refine WX.keep [(4, _)] ⟨rfl, trivial⟩ ?_
              refine WX.next ?_
              refine WC.ret ?_
              refine WX.thenRet ?_
              refine WX.retE1 rfl rfl ?_
              exact ⟨rfl, hU⟩
          · try (exfalso; first | (simp at hc1; done) | (simp only [decide_eq_true_eq, decide_eq_false_iff_not, Bool.not_eq_true', Bool.not_eq_false', Bool.not_eq_true, Bool.not_eq_false] at hc1; omega) | omega)
            all_goals
              try simp only [decide_eq_true_eq, decide_eq_false_iff_not, Bool.not_eq_true', Bool.not_eq_false', Bool.not_eq_true, Bool.not_eq_false, Option.isNone_none, Option.isNone_some, Option.isSome_none, Option.isSome_some, ne_eq, Decidable.not_not] at hc1
              refine WC.skip ?_
              refine WX.next ?_
              refine WC.seq ?_
              -- region 3 more.go:12
              refine WC.region ?_
              refine WL.val rfl rfl rfl rfl (r_build (cs := #[_]) (vs := []) rfl trivial plc_39 zero_39 rfl) ?_
              refine WL.cons (SO.alloc rfl rfl rfl rfl (r_boxAgg rfl (ev_t rfl)) ?_)
              intro w5 hu5 hB5 hz5
              have hs5 := hu5.size
              replace hU := hU.fresh hu5 (by first | exact (fun _ h => h.elim) | (intro k hk; simp only [At, New, Grow, From, No] at hk; omega))
              replace hr1 := hr1.upd hu5 (by first | exact (fun _ _ _ h => h) | (intro k hk hl hS; have := hF k hk; simp only [At, New, Grow, From, No] at hS; omega))
              replace hr2 := hr2.upd hu5 (by first | exact (fun _ _ _ h => h) | (intro k hk hl hS; have := hF' k hk; simp only [At, New, Grow, From, No] at hS; omega))
              refine WL.val rfl rfl rfl rfl (r_assign rfl (ev_t rfl)) ?_
              refine WL.nil ?_
              refine WX.keep [(0, _), (1, _), (5, _)] ⟨rfl, rfl, rfl, trivial⟩ ?_
              refine WX.next ?_
              refine WC.seq ?_
              -- region 4 more.go:13
              refine WC.region ?_
              refine WL.val rfl rfl rfl rfl (r_move rfl (ev_t rfl)) ?_
              refine WL.val rfl rfl rfl rfl (r_move rfl (ev_t rfl)) ?_
              refine WL.cons (SO.call (wbytes_ok (IsW.of (M := At _) hB5 rfl) hr1 (fun k hk hM => by have := hF k hk; simp only [At] at hM; omega) (by simp; omega)) rfl body_23 ⟨(ev_t rfl), (ev_t rfl), trivial⟩ rfl rfl rfl rfl ?_)
              rintro v w6 ⟨rfl, hA, hu6⟩
              rw [List.nil_append] at hA
              have hs6 := hu6.size
              replace hU := hU.fresh hu6 (by first | exact (fun _ h => h.elim) | (intro k hk; simp only [At, New, Grow, From, No] at hk; omega))
              replace hr1 := hr1.upd hu6 (by first | exact (fun _ _ _ h => h) | (intro k hk hl hS; have := hF k hk; simp only [At, New, Grow, From, No] at hS; omega))
              replace hr2 := hr2.upd hu6 (by first | exact (fun _ _ _ h => h) | (intro k hk hl hS; have := hF' k hk; simp only [At, New, Grow, From, No] at hS; omega))
              refine WL.cons (SO.call (wdone_ok hA (by omega)) rfl body_21 ⟨(ev_t rfl), trivial⟩ rfl rfl rfl rfl ?_)
              rintro v1 w7 ⟨ho1, hu7⟩
              have hs7 := hu7.size
              replace hU := hU.fresh hu7 (by first | exact (fun _ h => h.elim) | (intro k hk; simp only [At, New, Grow, From, No] at hk; omega))
              replace hr1 := hr1.upd hu7 (by first | exact (fun _ _ _ h => h) | (intro k hk hl hS; have := hF k hk; simp only [At, New, Grow, From, No] at hS; omega))
              replace hr2 := hr2.upd hu7 (by first | exact (fun _ _ _ h => h) | (intro k hk hl hS; have := hF' k hk; simp only [At, New, Grow, From, No] at hS; omega))
              replace hA := hA.upd hu7 (by first | (with_reducible assumption) | exact (fun h => h) | exact (fun _ _ _ h => h) | (simp only [At]; omega) | (intro k hk hl hS; simp only [At] at hS; subst hS; contradiction) | (intro k hk hl hS; simp only [At] at hS; subst hS; exact Grow.old (by omega) (by assumption) hk) | (intro k hk hl hS; (try simp only [At, From, No, Grow, New] at hk hS); omega))
              refine WL.val rfl rfl rfl rfl (r_assign rfl (ev_t rfl)) ?_
              refine WL.nil ?_
              refine WX.keep [(1, _), (5, _), (6, _)] ⟨rfl, rfl, rfl, trivial⟩ ?_
              refine WX.next ?_
              refine WC.seq ?_
              -- region 5 more.go:14
              refine WC.region ?_
              refine WL.val rfl rfl rfl rfl (r_move rfl (ev_t rfl)) ?_
              refine WL.cons (SO.call (wdone_ok hA (by omega)) rfl body_21 ⟨(ev_t rfl), trivial⟩ rfl rfl rfl rfl ?_)
              rintro v2 w8 ⟨ho2, hu8⟩
              have hs8 := hu8.size
              replace hU := hU.fresh hu8 (by first | exact (fun _ h => h.elim) | (intro k hk; simp only [At, New, Grow, From, No] at hk; omega))
              replace hr1 := hr1.upd hu8 (by first | exact (fun _ _ _ h => h) | (intro k hk hl hS; have := hF k hk; simp only [At, New, Grow, From, No] at hS; omega))
              replace hr2 := hr2.upd hu8 (by first | exact (fun _ _ _ h => h) | (intro k hk hl hS; have := hF' k hk; simp only [At, New, Grow, From, No] at hS; omega))
              replace hA := hA.upd hu8 (by first | (with_reducible assumption) | exact (fun h => h) | exact (fun _ _ _ h => h) | (simp only [At]; omega) | (intro k hk hl hS; simp only [At] at hS; subst hS; contradiction) | (intro k hk hl hS; simp only [At] at hS; subst hS; exact Grow.old (by omega) (by assumption) hk) | (intro k hk hl hS; (try simp only [At, From, No, Grow, New] at hk hS); omega))
              replace ho1 := ho1.upd hu8 (by first | (with_reducible assumption) | exact (fun h => h) | exact (fun _ _ _ h => h) | (simp only [At]; omega) | (intro k hk hl hS; simp only [At] at hS; subst hS; contradiction) | (intro k hk hl hS; simp only [At] at hS; subst hS; exact Grow.old (by omega) (by assumption) hk) | (intro k hk hl hS; (try simp only [At, From, No, Grow, New] at hk hS); omega))
              obtain ⟨g1, k1, cur, rfl, hb1, hg1, hk1, hm1, hsz1, htk1⟩ := Own.open ho1 (by omega)
              obtain ⟨B2, k2, rfl, hk2⟩ := Own.form ho2
              refine WL.val rfl rfl rfl rfl (r_assign rfl (ev_t rfl)) ?_
              refine WL.nil ?_
              refine WX.keep [(1, _), (5, _), (6, _), (7, _)] ⟨rfl, rfl, rfl, rfl, trivial⟩ ?_
              refine WX.next ?_
              refine WC.seq ?_
              refine WC.seq ?_
              -- region 6 more.go:15
              refine WC.region ?_
              refine WL.val rfl rfl rfl rfl (r_move rfl (ev_t rfl)) ?_
              refine WL.val rfl rfl rfl rfl (r_toStr rfl (ev_t rfl) (ho1.rd (by omega)) elem_37 int_5 str_9) ?_
              refine WL.val rfl rfl rfl rfl (r_move rfl (ev_t rfl)) ?_
              refine WL.val rfl rfl rfl rfl (r_toStr rfl (ev_t rfl) (ho2.rd (by omega)) elem_37 int_5 str_9) ?_
              refine WL.val rfl rfl rfl rfl (r_neqStr rfl (ev_t rfl) (ev_t rfl)) ?_
              refine WL.nil ?_
              refine WX.keep [(1, _), (5, _), (6, _), (7, _), (39, _)] ⟨rfl, rfl, rfl, rfl, rfl, trivial⟩ ?_
              refine WX.next ?_
              refine WC.cond rfl (ev_t rfl) (fun hc6 => ?_) (fun hc6 => ?_)
              · try (exfalso; first | (simp at hc6; done) | (simp only [decide_eq_true_eq, decide_eq_false_iff_not, Bool.not_eq_true', Bool.not_eq_false', Bool.not_eq_true, Bool.not_eq_false] at hc6; omega) | omega)
                all_goals
                  try simp only [decide_eq_true_eq, decide_eq_false_iff_not, Bool.not_eq_true', Bool.not_eq_false', Bool.not_eq_true, Bool.not_eq_false, Option.isNone_none, Option.isNone_some, Option.isSome_none, Option.isSome_some, ne_eq, Decidable.not_not] at hc6
                  refine WC.seq ?_
                  -- region 7 more.go:16
                  refine WC.region ?_
                  refine WL.val rfl rfl rfl rfl (r_assign rfl ev_c) ?_
                  refine WL.nil ?_
                  refine WX.keep [(4, _)] ⟨rfl, trivial⟩ ?_
                  refine WX.next ?_
                  refine WC.ret ?_
                  refine WX.thenRet ?_
                  refine WX.retE1 rfl rfl ?_
                  rw [mk_toList, mk_toList, List.drop_left, hla, Nat.add_sub_cancel_left, List.take_length]
                  exact ⟨by simp, hU⟩
              · try (exfalso; first | (simp at hc6; done) | (simp only [decide_eq_true_eq, decide_eq_false_iff_not, Bool.not_eq_true', Bool.not_eq_false', Bool.not_eq_true, Bool.not_eq_false] at hc6; omega) | omega)
                all_goals
                  try simp only [decide_eq_true_eq, decide_eq_false_iff_not, Bool.not_eq_true', Bool.not_eq_false', Bool.not_eq_true, Bool.not_eq_false, Option.isNone_none, Option.isNone_some, Option.isSome_none, Option.isSome_some, ne_eq, Decidable.not_not] at hc6
                  refine WC.skip ?_
                  refine WX.next ?_
                  refine WC.seq ?_
                  -- region 8 more.go:18
                  refine WC.region ?_
                  refine WL.val rfl rfl rfl rfl (r_move rfl (ev_t rfl)) ?_
                  refine WL.val rfl rfl rfl rfl (r_toStr rfl (ev_t rfl) (ho1.rd (by omega)) elem_37 int_5 str_9) ?_
                  refine WL.val rfl rfl rfl rfl (r_assign rfl (ev_t rfl)) ?_
                  refine WL.nil ?_
                  refine WX.keep [(1, _), (5, _), (6, _), (7, _), (8, _)] ⟨rfl, rfl, rfl, rfl, rfl, trivial⟩ ?_
                  refine WX.next ?_
                  refine WC.seq ?_
                  have hcur : cur[0 + Int.toNat 0 * 1]? = some (U8 (UInt8.ofNat (blen a.length))) := by
                    have h1 := congrArg (fun l : List Value => l[0]?) htk1
                    have h2 : (cur.toList.take ((encU a.length ++ a).length * 1))[0]? = cur.toList[0]? := List.getElem?_take_of_lt (by omega)
                    simp only [h2] at h1
                    rw [Array.getElem?_toList] at h1
                    exact h1
                  have hlo := hg1.1
                  have hhi := hg1.2
                  -- region 9 more.go:19
                  refine WC.region ?_
                  refine WL.val rfl rfl rfl rfl (r_move rfl (ev_t rfl)) ?_
                  refine WL.val rfl rfl rfl rfl (r_move rfl (ev_t rfl)) ?_
                  refine WL.val rfl rfl rfl rfl (r_indexAddr rfl (ev_t rfl) ev_c elem_37 size_5 (by omega) (by omega)) ?_
                  refine WL.val rfl rfl rfl rfl (r_load rfl (ev_t rfl) flat_5 (Blk.cell hb1 hcur)) ?_
                  refine WL.val rfl rfl rfl rfl (r_xor rfl (ev_t rfl) ev_c) ?_
                  refine WL.val rfl rfl rfl rfl (r_indexAddr rfl (ev_t rfl) ev_c elem_37 size_5 (by omega) (by omega)) ?_
                  refine WL.cons (SO.store rfl (ev_t rfl) (ev_t rfl) size_5 hb1 (by rw [Nat.blt_eq]; simp; omega) rfl rfl rfl rfl ?_)
                  intro w9 hu9 hb1' hz'
                  have hs9 := hu9.size
                  replace hU := hU.fresh hu9 (by first | exact (fun _ h => h.elim) | (intro k hk; simp only [At, New, Grow, From, No] at hk; omega))
                  replace hr1 := hr1.upd hu9 (by first | exact (fun _ _ _ h => h) | (intro k hk hl hS; have := hF k hk; simp only [At, New, Grow, From, No] at hS; omega))
                  replace hr2 := hr2.upd hu9 (by first | exact (fun _ _ _ h => h) | (intro k hk hl hS; have := hF' k hk; simp only [At, New, Grow, From, No] at hS; omega))
                  replace hA := hA.upd hu9 (by first | (with_reducible assumption) | exact (fun h => h) | exact (fun _ _ _ h => h) | (simp only [At]; omega) | (intro k hk hl hS; simp only [At] at hS; subst hS; contradiction) | (intro k hk hl hS; simp only [At] at hS; subst hS; exact Grow.old (by omega) (by assumption) hk) | (intro k hk hl hS; (try simp only [At, From, No, Grow, New] at hk hS); omega))
                  replace ho2 := ho2.upd hu9 (by first | (with_reducible assumption) | exact (fun h => h) | exact (fun _ _ _ h => h) | (simp only [At]; omega) | (intro k hk hl hS; simp only [At] at hS; subst hS; contradiction) | (intro k hk hl hS; simp only [At] at hS; subst hS; exact Grow.old (by omega) (by assumption) hk) | (intro k hk hl hS; (try simp only [At, From, No, Grow, New] at hk hS); omega))
                  refine WL.nil ?_
                  refine WX.keep [(1, _), (5, _), (7, _), (8, _)] ⟨rfl, rfl, rfl, rfl, trivial⟩ ?_
                  refine WX.next ?_
                  refine WC.seq ?_
                  -- region 10 more.go:20
                  refine WC.region ?_
                  refine WL.val rfl rfl rfl rfl (r_move rfl (ev_t rfl)) ?_
                  refine WL.val rfl rfl rfl rfl (r_move rfl (ev_t rfl)) ?_
                  refine WL.cons (SO.call (wbytes_ok hA hr2 (fun k hk hM => by have := hF' k hk; simp only [At, Grow] at hM; omega) (by omega)) rfl body_23 ⟨(ev_t rfl), (ev_t rfl), trivial⟩ rfl rfl rfl rfl ?_)
                  rintro v w10 ⟨rfl, hA', hu10⟩
                  have hs10 := hu10.size
                  replace hU := hU.fresh hu10 (by first | exact (fun _ h => h.elim) | (intro k hk; simp only [At, New, Grow, From, No] at hk; omega))
                  replace hr1 := hr1.upd hu10 (by first | exact (fun _ _ _ h => h) | (intro k hk hl hS; have := hF k hk; simp only [At, New, Grow, From, No] at hS; omega))
                  replace hr2 := hr2.upd hu10 (by first | exact (fun _ _ _ h => h) | (intro k hk hl hS; have := hF' k hk; simp only [At, New, Grow, From, No] at hS; omega))
                  replace ho2 := ho2.upd hu10 (by first | (with_reducible assumption) | exact (fun h => h) | exact (fun _ _ _ h => h) | (simp only [At]; omega) | (intro k hk hl hS; simp only [At] at hS; subst hS; contradiction) | (intro k hk hl hS; simp only [At] at hS; subst hS; exact Grow.old (by omega) (by assumption) hk) | (intro k hk hl hS; (try simp only [At, From, No, Grow, New] at hk hS); omega))
                  refine WL.cons (SO.call (wdone_ok hA' (by rw [List.length_append]; omega)) rfl body_21 ⟨(ev_t rfl), trivial⟩ rfl rfl rfl rfl ?_)
                  rintro v3 w11 ⟨ho3, hu11⟩
                  have hs11 := hu11.size
                  replace hU := hU.fresh hu11 (by first | exact (fun _ h => h.elim) | (intro k hk; simp only [At, New, Grow, From, No] at hk; omega))
                  replace hr1 := hr1.upd hu11 (by first | exact (fun _ _ _ h => h) | (intro k hk hl hS; have := hF k hk; simp only [At, New, Grow, From, No] at hS; omega))
                  replace hr2 := hr2.upd hu11 (by first | exact (fun _ _ _ h => h) | (intro k hk hl hS; have := hF' k hk; simp only [At, New, Grow, From, No] at hS; omega))
                  replace ho2 := ho2.upd hu11 (by first | (with_reducible assumption) | exact (fun h => h) | exact (fun _ _ _ h => h) | (simp only [At]; omega) | (intro k hk hl hS; simp only [At] at hS; subst hS; contradiction) | (intro k hk hl hS; simp only [At] at hS; subst hS; exact Grow.old (by omega) (by assumption) hk) | (intro k hk hl hS; (try simp only [At, From, No, Grow, New] at hk hS); omega))
                  replace hA' := hA'.upd hu11 (by first | (with_reducible assumption) | exact (fun h => h) | exact (fun _ _ _ h => h) | (simp only [At]; omega) | (intro k hk hl hS; simp only [At] at hS; subst hS; contradiction) | (intro k hk hl hS; simp only [At] at hS; subst hS; exact Grow.old (by omega) (by assumption) hk) | (intro k hk hl hS; (try simp only [At, From, No, Grow, New] at hk hS); omega))
                  have hla : ((encU a.length ++ a) ++ (encU b.length ++ b)).length = (encU a.length ++ a).length + (encU b.length ++ b).length := List.length_append
                  obtain ⟨g3, k3, cur3, rfl, hb3, hg3, hk3, hm3, hsz3, htk3⟩ := Own.open ho3 (by omega)
                  refine WL.val rfl rfl rfl rfl (r_assign rfl (ev_t rfl)) ?_
                  refine WL.nil ?_
                  refine WX.keep [(1, _), (7, _), (8, _), (9, _)] ⟨rfl, rfl, rfl, rfl, trivial⟩ ?_
                  refine WX.next ?_
                  refine WC.seq ?_
                  -- region 11 more.go:21
                  refine WC.region ?_
                  refine WL.val rfl rfl rfl rfl (r_build (cs := #[_]) (vs := []) rfl trivial plc_39 zero_39 rfl) ?_
                  refine WL.cons (SO.alloc rfl rfl rfl rfl (r_boxAgg rfl (ev_t rfl)) ?_)
                  intro w12 hu12 hB12 hz12
                  have hs12 := hu12.size
                  replace hU := hU.fresh hu12 (by first | exact (fun _ h => h.elim) | (intro k hk; simp only [At, New, Grow, From, No] at hk; omega))
                  replace hr1 := hr1.upd hu12 (by first | exact (fun _ _ _ h => h) | (intro k hk hl hS; have := hF k hk; simp only [At, New, Grow, From, No] at hS; omega))
                  replace hr2 := hr2.upd hu12 (by first | exact (fun _ _ _ h => h) | (intro k hk hl hS; have := hF' k hk; simp only [At, New, Grow, From, No] at hS; omega))
                  replace ho2 := ho2.upd hu12 (by first | (with_reducible assumption) | exact (fun h => h) | exact (fun _ _ _ h => h) | (simp only [At]; omega) | (intro k hk hl hS; simp only [At] at hS; subst hS; contradiction) | (intro k hk hl hS; simp only [At] at hS; subst hS; exact Grow.old (by omega) (by assumption) hk) | (intro k hk hl hS; (try simp only [At, From, No, Grow, New] at hk hS); omega))
                  replace ho3 := ho3.upd hu12 (by first | (with_reducible assumption) | exact (fun h => h) | exact (fun _ _ _ h => h) | (simp only [At]; omega) | (intro k hk hl hS; simp only [At] at hS; subst hS; contradiction) | (intro k hk hl hS; simp only [At] at hS; subst hS; exact Grow.old (by omega) (by assumption) hk) | (intro k hk hl hS; (try simp only [At, From, No, Grow, New] at hk hS); omega))
                  refine WL.val rfl rfl rfl rfl (r_assign rfl (ev_t rfl)) ?_
                  refine WL.nil ?_
                  refine WX.keep [(1, _), (7, _), (8, _), (9, _), (10, _)] ⟨rfl, rfl, rfl, rfl, rfl, trivial⟩ ?_
                  refine WX.next ?_
                  refine WC.seq ?_
                  -- region 12 more.go:22 DRAWS
                  refine WC.draws' (fun w0 w => Upd No w0 w) (fun j => [0, 2, 0, 0, 0, 0, 0, 0, 0, 0, 0, 0, 0, 0, 2, 0, 0, 0, 0, 0, 0, 0, 0, 0, 2, 0, 0, 2, 2, 2, 0, 0, 0].getD j 0) (.calm 0 (.calm 2 (.one 1 (.calm 3 (.calm 4 (.calm 5 (.calm 6 (.calm 7 (.calm 8 (.calm 9 (.calm 10 (.calm 11 (.calm 12 (.calm 13 (.calm 15 (.calm 16 (.one 14 (.calm 17 (.calm 18 (.calm 19 (.calm 20 (.calm 21 (.calm 22 (.calm 23 (.calm 25 (.calm 26 (.two 24 27 (.one 27 (.one 28 (.one 29 (.calm 30 (.calm 31 (.calm 32 (.done))))))) (.two 24 28 (.one 28 (.one 29 (.calm 30 (.calm 31 (.calm 32 (.done)))))) (.two 24 29 (.one 29 (.calm 30 (.calm 31 (.calm 32 (.done))))) (.one 24 (.calm 30 (.calm 31 (.calm 32 (.done)))))))))))))))))))))))))))))))))) mixed (by kernel_rfl) (by repeat (first | with_reducible exact Deaf.body | with_reducible apply Deaf.then | with_reducible apply Deaf.block)) ?_
                  intro w13 hu13
                  have hz13 := congrArg Array.size hu13.2.2.2
                  replace hu13 := Upd.of_draw hu13
                  have hs13 := hu13.size
                  replace hU := hU.fresh hu13 (by first | exact (fun _ h => h.elim) | (intro k hk; simp only [At, New, Grow, From, No] at hk; omega))
                  replace hr1 := hr1.upd hu13 (by first | exact (fun _ _ _ h => h) | (intro k hk hl hS; have := hF k hk; simp only [At, New, Grow, From, No] at hS; omega))
                  replace hr2 := hr2.upd hu13 (by first | exact (fun _ _ _ h => h) | (intro k hk hl hS; have := hF' k hk; simp only [At, New, Grow, From, No] at hS; omega))
                  replace ho2 := ho2.upd hu13 (by first | (with_reducible assumption) | exact (fun h => h) | exact (fun _ _ _ h => h) | (simp only [At]; omega) | (intro k hk hl hS; simp only [At] at hS; subst hS; contradiction) | (intro k hk hl hS; simp only [At] at hS; subst hS; exact Grow.old (by omega) (by assumption) hk) | (intro k hk hl hS; (try simp only [At, From, No, Grow, New] at hk hS); omega))
                  replace ho3 := ho3.upd hu13 (by first | (with_reducible assumption) | exact (fun h => h) | exact (fun _ _ _ h => h) | (simp only [At]; omega) | (intro k hk hl hS; simp only [At] at hS; subst hS; contradiction) | (intro k hk hl hS; simp only [At] at hS; subst hS; exact Grow.old (by omega) (by assumption) hk) | (intro k hk hl hS; (try simp only [At, From, No, Grow, New] at hk hS); omega))
                  replace hB12 := hB12.upd hu13 (by first | (with_reducible assumption) | exact (fun h => h) | exact (fun _ _ _ h => h) | (simp only [At]; omega) | (intro k hk hl hS; simp only [At] at hS; subst hS; contradiction) | (intro k hk hl hS; simp only [At] at hS; subst hS; exact Grow.old (by omega) (by assumption) hk) | (intro k hk hl hS; (try simp only [At, From, No, Grow, New] at hk hS); omega))
                  refine WN.calm _ rfl rfl rfl rfl rfl (fun _ => r_move rfl (ev_t rfl)) ?_
                  refine WN.calm _ rfl rfl rfl rfl rfl (fun _ => r_move rfl (ev_t rfl)) ?_
                  refine WN.step _ rfl (SO.val rfl rfl rfl rfl (r_toStr rfl (ev_t rfl) (ho2.rd (by omega)) elem_37 int_5 str_9) ?_)
                  refine ⟨trivial, ?_⟩
                  refine WN.calm _ rfl rfl rfl rfl rfl (fun _ => r_eqlStr rfl (ev_t rfl) (ev_t rfl)) ?_
                  refine WN.calm _ rfl rfl rfl rfl rfl (fun _ => r_move rfl (ev_t rfl)) ?_
                  refine WN.cases 58 rfl (fun hb12_4 => ?_) (fun hb12_4 => ?_)
                  · try (exfalso; first | (simp at hb12_4; done) | (simp only [decide_eq_true_eq, decide_eq_false_iff_not, Bool.not_eq_true', Bool.not_eq_false', Bool.not_eq_true, Bool.not_eq_false] at hb12_4; omega) | omega)
                    all_goals
                      try simp only [decide_eq_true_eq, decide_eq_false_iff_not, Bool.not_eq_true', Bool.not_eq_false', Bool.not_eq_true, Bool.not_eq_false, Option.isNone_none, Option.isNone_some, Option.isSome_none, Option.isSome_some, ne_eq, Decidable.not_not] at hb12_4
                      refine WN.calm _ rfl rfl rfl rfl rfl (fun _ => r_move rfl (ev_t rfl)) ?_
                      refine WN.calm _ rfl rfl rfl rfl rfl (fun _ => r_lenSlice (ts := #[]) rfl (ev_t rfl) elem_37) ?_
                      refine WN.calm _ rfl rfl rfl rfl rfl (fun _ => r_move rfl (ev_t rfl)) ?_
                      refine WN.calm _ rfl rfl rfl rfl rfl (fun _ => r_lenString rfl (ev_t rfl) str_9) ?_
                      refine WN.calm _ rfl rfl rfl rfl rfl (fun _ => r_gtr rfl (ev_t rfl) (ev_t rfl)) ?_
                      refine WN.calm _ rfl rfl rfl rfl rfl (fun _ => r_pickT rfl (ev_t rfl) (ev_t rfl)) ?_
                      refine WN.calm _ rfl rfl rfl rfl rfl (fun _ => r_move rfl (ev_t rfl)) ?_
                      refine WN.cases 65 rfl (fun hb12_11 => ?_) (fun hb12_11 => ?_)
                      · try (exfalso; first | (simp at hb12_11; done) | (simp only [decide_eq_true_eq, decide_eq_false_iff_not, Bool.not_eq_true', Bool.not_eq_false', Bool.not_eq_true, Bool.not_eq_false] at hb12_11; omega) | omega)
                        all_goals
                          try simp only [decide_eq_true_eq, decide_eq_false_iff_not, Bool.not_eq_true', Bool.not_eq_false', Bool.not_eq_true, Bool.not_eq_false, Option.isNone_none, Option.isNone_some, Option.isSome_none, Option.isSome_some, ne_eq, Decidable.not_not] at hb12_11
                          refine WN.calm _ rfl rfl rfl rfl rfl (fun _ => r_move rfl (ev_t rfl)) ?_
                          refine WN.calm _ rfl rfl rfl rfl rfl (fun _ => r_indexAddr rfl (ev_t rfl) ev_c elem_37 size_5 (by omega) (by omega)) ?_
                          refine WN.calm _ rfl rfl rfl rfl rfl (fun _ => r_move rfl (ev_t rfl)) ?_
                          refine WN.calm _ rfl rfl rfl rfl rfl (fun _ => r_indexStr (j := 0) rfl (ev_t rfl) ev_c str_9 rfl (by rw [mk_toList]; rfl)) ?_
                          refine WN.step _ rfl (SO.val rfl rfl rfl rfl (r_load rfl (ev_t rfl) flat_5 ((ho3.rd (by omega)).cell (j := 0) (by omega) rfl)) ?_)
                          refine ⟨trivial, ?_⟩
                          refine WN.calm _ rfl rfl rfl rfl rfl (fun _ => r_eql rfl (ev_t rfl) (ev_t rfl)) ?_
                          refine WN.calm _ rfl rfl rfl rfl rfl (fun _ => r_pickT rfl (ev_t rfl) (ev_t rfl)) ?_
                          refine WN.calm _ rfl rfl rfl rfl rfl (fun _ => r_move rfl (ev_t rfl)) ?_
                          refine WN.cases 73 rfl (fun hb12_19 => ?_) (fun hb12_19 => ?_)
                          · try (exfalso; first | (simp at hb12_19; done) | (simp only [decide_eq_true_eq, decide_eq_false_iff_not, Bool.not_eq_true', Bool.not_eq_false', Bool.not_eq_true, Bool.not_eq_false] at hb12_19; omega) | omega)
                            all_goals
                              try simp only [decide_eq_true_eq, decide_eq_false_iff_not, Bool.not_eq_true', Bool.not_eq_false', Bool.not_eq_true, Bool.not_eq_false, Option.isNone_none, Option.isNone_some, Option.isSome_none, Option.isSome_some, ne_eq, Decidable.not_not] at hb12_19
                              refine WN.calm _ rfl rfl rfl rfl rfl (fun _ => r_move rfl (ev_t rfl)) ?_
                              refine WN.calm _ rfl rfl rfl rfl rfl (fun _ => r_move rfl (ev_t rfl)) ?_
                              refine WN.calm _ rfl rfl rfl rfl rfl (fun _ => r_lenString rfl (ev_t rfl) str_9) ?_
                              refine WN.calm _ rfl rfl rfl rfl rfl (fun _ => r_slice (l := (encU a.length ++ a).length) (h := (encU a.length ++ a ++ (encU b.length ++ b)).length) rfl (ev_t rfl) elem_37 size_5 (bnd_some (ev_t rfl) (by omega)) bnd_none (by omega) (by omega) (by omega)) ?_
                              refine WN.calm _ rfl rfl rfl rfl rfl (fun _ => r_move rfl (ev_t rfl)) ?_
                              refine WN.calm _ rfl rfl rfl rfl rfl (fun _ => r_move rfl (ev_t rfl)) ?_
                              refine WN.fork _ _ rfl rfl ?_ ?_
                              · refine SO.val rfl rfl rfl rfl (r_toStr rfl (ev_t rfl) ((ho3.rd (by omega)).sliceB (lo := (encU a.length ++ a).length) (h := (encU a.length ++ a ++ (encU b.length ++ b)).length) (by omega) (by omega)) elem_37 int_5 str_9) ?_
                                refine ⟨trivial, ?_⟩
                                refine WN.step _ rfl (SO.call (wbytes_ok (IsW.of (M := At _) hB12 rfl) hr2 (fun k hk hM => by have := hF' k hk; simp only [At] at hM; omega) (by simp; omega)) rfl body_23 ⟨(ev_t rfl), (ev_t rfl), trivial⟩ rfl rfl rfl rfl ?_)
                                rintro v w14 ⟨rfl, hD, hu14⟩
                                rw [List.nil_append] at hD
                                have hs14 := hu14.size
                                replace hU := hU.fresh hu14 (by first | exact (fun _ h => h.elim) | (intro k hk; simp only [At, New, Grow, From, No] at hk; omega))
                                replace hr1 := hr1.upd hu14 (by first | exact (fun _ _ _ h => h) | (intro k hk hl hS; have := hF k hk; simp only [At, New, Grow, From, No] at hS; omega))
                                replace hr2 := hr2.upd hu14 (by first | exact (fun _ _ _ h => h) | (intro k hk hl hS; have := hF' k hk; simp only [At, New, Grow, From, No] at hS; omega))
                                replace ho2 := ho2.upd hu14 (by first | (with_reducible assumption) | exact (fun h => h) | exact (fun _ _ _ h => h) | (simp only [At]; omega) | (intro k hk hl hS; simp only [At] at hS; subst hS; contradiction) | (intro k hk hl hS; simp only [At] at hS; subst hS; exact Grow.old (by omega) (by assumption) hk) | (intro k hk hl hS; (try simp only [At, From, No, Grow, New] at hk hS); omega))
                                replace ho3 := ho3.upd hu14 (by first | (with_reducible assumption) | exact (fun h => h) | exact (fun _ _ _ h => h) | (simp only [At]; omega) | (intro k hk hl hS; simp only [At] at hS; subst hS; contradiction) | (intro k hk hl hS; simp only [At] at hS; subst hS; exact Grow.old (by omega) (by assumption) hk) | (intro k hk hl hS; (try simp only [At, From, No, Grow, New] at hk hS); omega))
                                refine ⟨trivial, ?_⟩
                                refine WN.step _ rfl (SO.call (wdone_ok hD (by omega)) rfl body_21 ⟨(ev_t rfl), trivial⟩ rfl rfl rfl rfl ?_)
                                rintro v4 w15 ⟨ho4, hu15⟩
                                have hs15 := hu15.size
                                replace hU := hU.fresh hu15 (by first | exact (fun _ h => h.elim) | (intro k hk; simp only [At, New, Grow, From, No] at hk; omega))
                                replace hr1 := hr1.upd hu15 (by first | exact (fun _ _ _ h => h) | (intro k hk hl hS; have := hF k hk; simp only [At, New, Grow, From, No] at hS; omega))
                                replace hr2 := hr2.upd hu15 (by first | exact (fun _ _ _ h => h) | (intro k hk hl hS; have := hF' k hk; simp only [At, New, Grow, From, No] at hS; omega))
                                replace ho2 := ho2.upd hu15 (by first | (with_reducible assumption) | exact (fun h => h) | exact (fun _ _ _ h => h) | (simp only [At]; omega) | (intro k hk hl hS; simp only [At] at hS; subst hS; contradiction) | (intro k hk hl hS; simp only [At] at hS; subst hS; exact Grow.old (by omega) (by assumption) hk) | (intro k hk hl hS; (try simp only [At, From, No, Grow, New] at hk hS); omega))
                                replace ho3 := ho3.upd hu15 (by first | (with_reducible assumption) | exact (fun h => h) | exact (fun _ _ _ h => h) | (simp only [At]; omega) | (intro k hk hl hS; simp only [At] at hS; subst hS; contradiction) | (intro k hk hl hS; simp only [At] at hS; subst hS; exact Grow.old (by omega) (by assumption) hk) | (intro k hk hl hS; (try simp only [At, From, No, Grow, New] at hk hS); omega))
                                replace hD := hD.upd hu15 (by first | (with_reducible assumption) | exact (fun h => h) | exact (fun _ _ _ h => h) | (simp only [At]; omega) | (intro k hk hl hS; simp only [At] at hS; subst hS; contradiction) | (intro k hk hl hS; simp only [At] at hS; subst hS; exact Grow.old (by omega) (by assumption) hk) | (intro k hk hl hS; (try simp only [At, From, No, Grow, New] at hk hS); omega))
                                obtain ⟨B4, k4, rfl, hk4⟩ := Own.form ho4
                                refine ⟨trivial, ?_⟩
                                refine WN.step _ rfl (SO.val rfl rfl rfl rfl (r_toStr rfl (ev_t rfl) (ho4.rd (by omega)) elem_37 int_5 str_9) ?_)
                                refine ⟨trivial, ?_⟩
                                refine WN.calm _ rfl rfl rfl rfl rfl (fun _ => r_eqlStr rfl (ev_t rfl) (ev_t rfl)) ?_
                                refine WN.calm _ rfl rfl rfl rfl rfl (fun _ => r_pickT rfl (ev_t rfl) (ev_t rfl)) ?_
                                refine WN.calm _ rfl rfl rfl rfl rfl (fun _ => r_assign rfl (ev_t rfl)) ?_
                                refine WN.done ?_
                                refine WX.keep [(4, _)] ⟨rfl, trivial⟩ ?_
                                refine WX.next ?_
                                refine WC.ret ?_
                                refine WX.retE1 rfl rfl ?_
                                rw [mk_toList, mk_toList, List.drop_left, hla, Nat.add_sub_cancel_left, List.take_length]
                                exact ⟨by simp, hU⟩
                              · refine SO.call (wbytes_ok (IsW.of (M := At _) hB12 rfl) hr2 (fun k hk hM => by have := hF' k hk; simp only [At] at hM; omega) (by simp; omega)) rfl body_23 ⟨(ev_t rfl), (ev_t rfl), trivial⟩ rfl rfl rfl rfl ?_
                                rintro v w16 ⟨rfl, hD, hu16⟩
                                rw [List.nil_append] at hD
                                have hs16 := hu16.size
                                replace hU := hU.fresh hu16 (by first | exact (fun _ h => h.elim) | (intro k hk; simp only [At, New, Grow, From, No] at hk; omega))
                                replace hr1 := hr1.upd hu16 (by first | exact (fun _ _ _ h => h) | (intro k hk hl hS; have := hF k hk; simp only [At, New, Grow, From, No] at hS; omega))
                                replace hr2 := hr2.upd hu16 (by first | exact (fun _ _ _ h => h) | (intro k hk hl hS; have := hF' k hk; simp only [At, New, Grow, From, No] at hS; omega))
                                replace ho2 := ho2.upd hu16 (by first | (with_reducible assumption) | exact (fun h => h) | exact (fun _ _ _ h => h) | (simp only [At]; omega) | (intro k hk hl hS; simp only [At] at hS; subst hS; contradiction) | (intro k hk hl hS; simp only [At] at hS; subst hS; exact Grow.old (by omega) (by assumption) hk) | (intro k hk hl hS; (try simp only [At, From, No, Grow, New] at hk hS); omega))
                                replace ho3 := ho3.upd hu16 (by first | (with_reducible assumption) | exact (fun h => h) | exact (fun _ _ _ h => h) | (simp only [At]; omega) | (intro k hk hl hS; simp only [At] at hS; subst hS; contradiction) | (intro k hk hl hS; simp only [At] at hS; subst hS; exact Grow.old (by omega) (by assumption) hk) | (intro k hk hl hS; (try simp only [At, From, No, Grow, New] at hk hS); omega))
                                refine ⟨trivial, ?_⟩
                                refine WN.fork _ _ rfl rfl ?_ ?_
                                · refine SO.val rfl rfl rfl rfl (r_toStr rfl (ev_t rfl) ((ho3.rd (by omega)).sliceB (lo := (encU a.length ++ a).length) (h := (encU a.length ++ a ++ (encU b.length ++ b)).length) (by omega) (by omega)) elem_37 int_5 str_9) ?_
                                  refine ⟨trivial, ?_⟩
                                  refine WN.step _ rfl (SO.call (wdone_ok hD (by omega)) rfl body_21 ⟨(ev_t rfl), trivial⟩ rfl rfl rfl rfl ?_)
                                  rintro v4 w17 ⟨ho4, hu17⟩
                                  have hs17 := hu17.size
                                  replace hU := hU.fresh hu17 (by first | exact (fun _ h => h.elim) | (intro k hk; simp only [At, New, Grow, From, No] at hk; omega))
                                  replace hr1 := hr1.upd hu17 (by first | exact (fun _ _ _ h => h) | (intro k hk hl hS; have := hF k hk; simp only [At, New, Grow, From, No] at hS; omega))
                                  replace hr2 := hr2.upd hu17 (by first | exact (fun _ _ _ h => h) | (intro k hk hl hS; have := hF' k hk; simp only [At, New, Grow, From, No] at hS; omega))
                                  replace ho2 := ho2.upd hu17 (by first | (with_reducible assumption) | exact (fun h => h) | exact (fun _ _ _ h => h) | (simp only [At]; omega) | (intro k hk hl hS; simp only [At] at hS; subst hS; contradiction) | (intro k hk hl hS; simp only [At] at hS; subst hS; exact Grow.old (by omega) (by assumption) hk) | (intro k hk hl hS; (try simp only [At, From, No, Grow, New] at hk hS); omega))
                                  replace ho3 := ho3.upd hu17 (by first | (with_reducible assumption) | exact (fun h => h) | exact (fun _ _ _ h => h) | (simp only [At]; omega) | (intro k hk hl hS; simp only [At] at hS; subst hS; contradiction) | (intro k hk hl hS; simp only [At] at hS; subst hS; exact Grow.old (by omega) (by assumption) hk) | (intro k hk hl hS; (try simp only [At, From, No, Grow, New] at hk hS); omega))
                                  replace hD := hD.upd hu17 (by first | (with_reducible assumption) | exact (fun h => h) | exact (fun _ _ _ h => h) | (simp only [At]; omega) | (intro k hk hl hS; simp only [At] at hS; subst hS; contradiction) | (intro k hk hl hS; simp only [At] at hS; subst hS; exact Grow.old (by omega) (by assumption) hk) | (intro k hk hl hS; (try simp only [At, From, No, Grow, New] at hk hS); omega))
                                  obtain ⟨B4, k4, rfl, hk4⟩ := Own.form ho4
                                  refine ⟨trivial, ?_⟩
                                  refine WN.step _ rfl (SO.val rfl rfl rfl rfl (r_toStr rfl (ev_t rfl) (ho4.rd (by omega)) elem_37 int_5 str_9) ?_)
                                  refine ⟨trivial, ?_⟩
                                  refine WN.calm _ rfl rfl rfl rfl rfl (fun _ => r_eqlStr rfl (ev_t rfl) (ev_t rfl)) ?_
                                  refine WN.calm _ rfl rfl rfl rfl rfl (fun _ => r_pickT rfl (ev_t rfl) (ev_t rfl)) ?_
                                  refine WN.calm _ rfl rfl rfl rfl rfl (fun _ => r_assign rfl (ev_t rfl)) ?_
                                  refine WN.done ?_
                                  refine WX.keep [(4, _)] ⟨rfl, trivial⟩ ?_
                                  refine WX.next ?_
                                  refine WC.ret ?_
                                  refine WX.retE1 rfl rfl ?_
                                  rw [mk_toList, mk_toList, List.drop_left, hla, Nat.add_sub_cancel_left, List.take_length]
                                  exact ⟨by simp, hU⟩
                                · refine SO.call (wdone_ok hD (by omega)) rfl body_21 ⟨(ev_t rfl), trivial⟩ rfl rfl rfl rfl ?_
                                  rintro v4 w18 ⟨ho4, hu18⟩
                                  have hs18 := hu18.size
                                  replace hU := hU.fresh hu18 (by first | exact (fun _ h => h.elim) | (intro k hk; simp only [At, New, Grow, From, No] at hk; omega))
                                  replace hr1 := hr1.upd hu18 (by first | exact (fun _ _ _ h => h) | (intro k hk hl hS; have := hF k hk; simp only [At, New, Grow, From, No] at hS; omega))
                                  replace hr2 := hr2.upd hu18 (by first | exact (fun _ _ _ h => h) | (intro k hk hl hS; have := hF' k hk; simp only [At, New, Grow, From, No] at hS; omega))
                                  replace ho2 := ho2.upd hu18 (by first | (with_reducible assumption) | exact (fun h => h) | exact (fun _ _ _ h => h) | (simp only [At]; omega) | (intro k hk hl hS; simp only [At] at hS; subst hS; contradiction) | (intro k hk hl hS; simp only [At] at hS; subst hS; exact Grow.old (by omega) (by assumption) hk) | (intro k hk hl hS; (try simp only [At, From, No, Grow, New] at hk hS); omega))
                                  replace ho3 := ho3.upd hu18 (by first | (with_reducible assumption) | exact (fun h => h) | exact (fun _ _ _ h => h) | (simp only [At]; omega) | (intro k hk hl hS; simp only [At] at hS; subst hS; contradiction) | (intro k hk hl hS; simp only [At] at hS; subst hS; exact Grow.old (by omega) (by assumption) hk) | (intro k hk hl hS; (try simp only [At, From, No, Grow, New] at hk hS); omega))
                                  replace hD := hD.upd hu18 (by first | (with_reducible assumption) | exact (fun h => h) | exact (fun _ _ _ h => h) | (simp only [At]; omega) | (intro k hk hl hS; simp only [At] at hS; subst hS; contradiction) | (intro k hk hl hS; simp only [At] at hS; subst hS; exact Grow.old (by omega) (by assumption) hk) | (intro k hk hl hS; (try simp only [At, From, No, Grow, New] at hk hS); omega))
                                  obtain ⟨B4, k4, rfl, hk4⟩ := Own.form ho4
                                  refine ⟨trivial, ?_⟩
                                  refine WN.fork _ _ rfl rfl ?_ ?_
                                  · refine SO.val rfl rfl rfl rfl (r_toStr rfl (ev_t rfl) ((ho3.rd (by omega)).sliceB (lo := (encU a.length ++ a).length) (h := (encU a.length ++ a ++ (encU b.length ++ b)).length) (by omega) (by omega)) elem_37 int_5 str_9) ?_
                                    refine ⟨trivial, ?_⟩
                                    refine WN.step _ rfl (SO.val rfl rfl rfl rfl (r_toStr rfl (ev_t rfl) (ho4.rd (by omega)) elem_37 int_5 str_9) ?_)
                                    refine ⟨trivial, ?_⟩
                                    refine WN.calm _ rfl rfl rfl rfl rfl (fun _ => r_eqlStr rfl (ev_t rfl) (ev_t rfl)) ?_
                                    refine WN.calm _ rfl rfl rfl rfl rfl (fun _ => r_pickT rfl (ev_t rfl) (ev_t rfl)) ?_
                                    refine WN.calm _ rfl rfl rfl rfl rfl (fun _ => r_assign rfl (ev_t rfl)) ?_
                                    refine WN.done ?_
                                    refine WX.keep [(4, _)] ⟨rfl, trivial⟩ ?_
                                    refine WX.next ?_
                                    refine WC.ret ?_
                                    refine WX.retE1 rfl rfl ?_
                                    rw [mk_toList, mk_toList, List.drop_left, hla, Nat.add_sub_cancel_left, List.take_length]
                                    exact ⟨by simp, hU⟩
                                  · refine SO.val rfl rfl rfl rfl (r_toStr rfl (ev_t rfl) (ho4.rd (by omega)) elem_37 int_5 str_9) ?_
                                    refine ⟨trivial, ?_⟩
                                    refine WN.step _ rfl (SO.val rfl rfl rfl rfl (r_toStr rfl (ev_t rfl) ((ho3.rd (by omega)).sliceB (lo := (encU a.length ++ a).length) (h := (encU a.length ++ a ++ (encU b.length ++ b)).length) (by omega) (by omega)) elem_37 int_5 str_9) ?_)
                                    refine ⟨trivial, ?_⟩
                                    refine WN.calm _ rfl rfl rfl rfl rfl (fun _ => r_eqlStr rfl (ev_t rfl) (ev_t rfl)) ?_
                                    refine WN.calm _ rfl rfl rfl rfl rfl (fun _ => r_pickT rfl (ev_t rfl) (ev_t rfl)) ?_
                                    refine WN.calm _ rfl rfl rfl rfl rfl (fun _ => r_assign rfl (ev_t rfl)) ?_
                                    refine WN.done ?_
                                    refine WX.keep [(4, _)] ⟨rfl, trivial⟩ ?_
                                    refine WX.next ?_
                                    refine WC.ret ?_
                                    refine WX.retE1 rfl rfl ?_
                                    rw [mk_toList, mk_toList, List.drop_left, hla, Nat.add_sub_cancel_left, List.take_length]
                                    exact ⟨by simp, hU⟩
                          · try (exfalso; first | (simp at hb12_19; done) | (simp only [decide_eq_true_eq, decide_eq_false_iff_not, Bool.not_eq_true', Bool.not_eq_false', Bool.not_eq_true, Bool.not_eq_false] at hb12_19; omega) | omega)
                            all_goals
                              try simp only [decide_eq_true_eq, decide_eq_false_iff_not, Bool.not_eq_true', Bool.not_eq_false', Bool.not_eq_true, Bool.not_eq_false, Option.isNone_none, Option.isNone_some, Option.isSome_none, Option.isSome_some, ne_eq, Decidable.not_not] at hb12_19
                              refine WN.skip _ rfl rfl rfl rfl ?_
                              refine WN.skip _ rfl rfl rfl rfl ?_
                              refine WN.skip _ rfl rfl rfl rfl ?_
                              refine WN.skip _ rfl rfl rfl rfl ?_
                              refine WN.skip _ rfl rfl rfl rfl ?_
                              refine WN.skip _ rfl rfl rfl rfl ?_
                              refine WN.fork _ _ rfl rfl ?_ ?_
                              · refine SO.val rfl rfl rfl rfl (r_toStr rfl (ev_t rfl) ((ho3.rd (by omega)).sliceB (lo := (encU a.length ++ a).length) (h := (encU a.length ++ a ++ (encU b.length ++ b)).length) (by omega) (by omega)) elem_37 int_5 str_9) ?_
                                refine ⟨trivial, ?_⟩
                                refine WN.step _ rfl (SO.skip rfl rfl rfl ?_)
                                refine ⟨trivial, ?_⟩
                                refine WN.step _ rfl (SO.skip rfl rfl rfl ?_)
                                refine ⟨trivial, ?_⟩
                                refine WN.step _ rfl (SO.skip rfl rfl rfl ?_)
                                refine ⟨trivial, ?_⟩
                                refine WN.skip _ rfl rfl rfl rfl ?_
                                refine WN.calm _ rfl rfl rfl rfl rfl (fun _ => r_pickF rfl (ev_t rfl) ev_c) ?_
                                refine WN.calm _ rfl rfl rfl rfl rfl (fun _ => r_assign rfl (ev_t rfl)) ?_
                                refine WN.done ?_
                                refine WX.keep [(4, _)] ⟨rfl, trivial⟩ ?_
                                refine WX.next ?_
                                refine WC.ret ?_
                                refine WX.retE1 rfl rfl ?_
                                rw [mk_toList, mk_toList, List.drop_left, hla, Nat.add_sub_cancel_left, List.take_length]
                                exact ⟨by simp, hU⟩
                              · refine SO.call (wbytes_ok (IsW.of (M := At _) hB12 rfl) hr2 (fun k hk hM => by have := hF' k hk; simp only [At] at hM; omega) (by simp; omega)) rfl body_23 ⟨(ev_t rfl), (ev_t rfl), trivial⟩ rfl rfl rfl rfl ?_
                                rintro v w19 ⟨rfl, hD, hu19⟩
                                rw [List.nil_append] at hD
                                have hs19 := hu19.size
                                replace hU := hU.fresh hu19 (by first | exact (fun _ h => h.elim) | (intro k hk; simp only [At, New, Grow, From, No] at hk; omega))
                                replace hr1 := hr1.upd hu19 (by first | exact (fun _ _ _ h => h) | (intro k hk hl hS; have := hF k hk; simp only [At, New, Grow, From, No] at hS; omega))
                                replace hr2 := hr2.upd hu19 (by first | exact (fun _ _ _ h => h) | (intro k hk hl hS; have := hF' k hk; simp only [At, New, Grow, From, No] at hS; omega))
                                replace ho2 := ho2.upd hu19 (by first | (with_reducible assumption) | exact (fun h => h) | exact (fun _ _ _ h => h) | (simp only [At]; omega) | (intro k hk hl hS; simp only [At] at hS; subst hS; contradiction) | (intro k hk hl hS; simp only [At] at hS; subst hS; exact Grow.old (by omega) (by assumption) hk) | (intro k hk hl hS; (try simp only [At, From, No, Grow, New] at hk hS); omega))
                                replace ho3 := ho3.upd hu19 (by first | (with_reducible assumption) | exact (fun h => h) | exact (fun _ _ _ h => h) | (simp only [At]; omega) | (intro k hk hl hS; simp only [At] at hS; subst hS; contradiction) | (intro k hk hl hS; simp only [At] at hS; subst hS; exact Grow.old (by omega) (by assumption) hk) | (intro k hk hl hS; (try simp only [At, From, No, Grow, New] at hk hS); omega))
                                refine ⟨trivial, ?_⟩
                                refine WN.fork _ _ rfl rfl ?_ ?_
                                · refine SO.val rfl rfl rfl rfl (r_toStr rfl (ev_t rfl) ((ho3.rd (by omega)).sliceB (lo := (encU a.length ++ a).length) (h := (encU a.length ++ a ++ (encU b.length ++ b)).length) (by omega) (by omega)) elem_37 int_5 str_9) ?_
                                  refine ⟨trivial, ?_⟩
                                  refine WN.step _ rfl (SO.skip rfl rfl rfl ?_)
                                  refine ⟨trivial, ?_⟩
                                  refine WN.step _ rfl (SO.skip rfl rfl rfl ?_)
                                  refine ⟨trivial, ?_⟩
                                  refine WN.skip _ rfl rfl rfl rfl ?_
                                  refine WN.calm _ rfl rfl rfl rfl rfl (fun _ => r_pickF rfl (ev_t rfl) ev_c) ?_
                                  refine WN.calm _ rfl rfl rfl rfl rfl (fun _ => r_assign rfl (ev_t rfl)) ?_
                                  refine WN.done ?_
                                  refine WX.keep [(4, _)] ⟨rfl, trivial⟩ ?_
                                  refine WX.next ?_
                                  refine WC.ret ?_
                                  refine WX.retE1 rfl rfl ?_
                                  rw [mk_toList, mk_toList, List.drop_left, hla, Nat.add_sub_cancel_left, List.take_length]
                                  exact ⟨by simp, hU⟩
                                · refine SO.call (wdone_ok hD (by omega)) rfl body_21 ⟨(ev_t rfl), trivial⟩ rfl rfl rfl rfl ?_
                                  rintro v4 w20 ⟨ho4, hu20⟩
                                  have hs20 := hu20.size
                                  replace hU := hU.fresh hu20 (by first | exact (fun _ h => h.elim) | (intro k hk; simp only [At, New, Grow, From, No] at hk; omega))
                                  replace hr1 := hr1.upd hu20 (by first | exact (fun _ _ _ h => h) | (intro k hk hl hS; have := hF k hk; simp only [At, New, Grow, From, No] at hS; omega))
                                  replace hr2 := hr2.upd hu20 (by first | exact (fun _ _ _ h => h) | (intro k hk hl hS; have := hF' k hk; simp only [At, New, Grow, From, No] at hS; omega))
                                  replace ho2 := ho2.upd hu20 (by first | (with_reducible assumption) | exact (fun h => h) | exact (fun _ _ _ h => h) | (simp only [At]; omega) | (intro k hk hl hS; simp only [At] at hS; subst hS; contradiction) | (intro k hk hl hS; simp only [At] at hS; subst hS; exact Grow.old (by omega) (by assumption) hk) | (intro k hk hl hS; (try simp only [At, From, No, Grow, New] at hk hS); omega))
                                  replace ho3 := ho3.upd hu20 (by first | (with_reducible assumption) | exact (fun h => h) | exact (fun _ _ _ h => h) | (simp only [At]; omega) | (intro k hk hl hS; simp only [At] at hS; subst hS; contradiction) | (intro k hk hl hS; simp only [At] at hS; subst hS; exact Grow.old (by omega) (by assumption) hk) | (intro k hk hl hS; (try simp only [At, From, No, Grow, New] at hk hS); omega))
                                  replace hD := hD.upd hu20 (by first | (with_reducible assumption) | exact (fun h => h) | exact (fun _ _ _ h => h) | (simp only [At]; omega) | (intro k hk hl hS; simp only [At] at hS; subst hS; contradiction) | (intro k hk hl hS; simp only [At] at hS; subst hS; exact Grow.old (by omega) (by assumption) hk) | (intro k hk hl hS; (try simp only [At, From, No, Grow, New] at hk hS); omega))
                                  obtain ⟨B4, k4, rfl, hk4⟩ := Own.form ho4
                                  refine ⟨trivial, ?_⟩
                                  refine WN.fork _ _ rfl rfl ?_ ?_
                                  · refine SO.val rfl rfl rfl rfl (r_toStr rfl (ev_t rfl) ((ho3.rd (by omega)).sliceB (lo := (encU a.length ++ a).length) (h := (encU a.length ++ a ++ (encU b.length ++ b)).length) (by omega) (by omega)) elem_37 int_5 str_9) ?_
                                    refine ⟨trivial, ?_⟩
                                    refine WN.step _ rfl (SO.skip rfl rfl rfl ?_)
                                    refine ⟨trivial, ?_⟩
                                    refine WN.skip _ rfl rfl rfl rfl ?_
                                    refine WN.calm _ rfl rfl rfl rfl rfl (fun _ => r_pickF rfl (ev_t rfl) ev_c) ?_
                                    refine WN.calm _ rfl rfl rfl rfl rfl (fun _ => r_assign rfl (ev_t rfl)) ?_
                                    refine WN.done ?_
                                    refine WX.keep [(4, _)] ⟨rfl, trivial⟩ ?_
                                    refine WX.next ?_
                                    refine WC.ret ?_
                                    refine WX.retE1 rfl rfl ?_
                                    rw [mk_toList, mk_toList, List.drop_left, hla, Nat.add_sub_cancel_left, List.take_length]
                                    exact ⟨by simp, hU⟩
                                  · refine SO.val rfl rfl rfl rfl (r_toStr rfl (ev_t rfl) (ho4.rd (by omega)) elem_37 int_5 str_9) ?_
                                    refine ⟨trivial, ?_⟩
                                    refine WN.step _ rfl (SO.skip rfl rfl rfl ?_)
                                    refine ⟨trivial, ?_⟩
                                    refine WN.skip _ rfl rfl rfl rfl ?_
                                    refine WN.calm _ rfl rfl rfl rfl rfl (fun _ => r_pickF rfl (ev_t rfl) ev_c) ?_
                                    refine WN.calm _ rfl rfl rfl rfl rfl (fun _ => r_assign rfl (ev_t rfl)) ?_
                                    refine WN.done ?_
                                    refine WX.keep [(4, _)] ⟨rfl, trivial⟩ ?_
                                    refine WX.next ?_
                                    refine WC.ret ?_
                                    refine WX.retE1 rfl rfl ?_
                                    rw [mk_toList, mk_toList, List.drop_left, hla, Nat.add_sub_cancel_left, List.take_length]
                                    exact ⟨by simp, hU⟩
                      · try (exfalso; first | (simp at hb12_11; done) | (simp only [decide_eq_true_eq, decide_eq_false_iff_not, Bool.not_eq_true', Bool.not_eq_false', Bool.not_eq_true, Bool.not_eq_false] at hb12_11; omega) | omega)
                        all_goals
                          try simp only [decide_eq_true_eq, decide_eq_false_iff_not, Bool.not_eq_true', Bool.not_eq_false', Bool.not_eq_true, Bool.not_eq_false, Option.isNone_none, Option.isNone_some, Option.isSome_none, Option.isSome_some, ne_eq, Decidable.not_not] at hb12_11
                          refine WN.skip _ rfl rfl rfl rfl ?_
                          refine WN.skip _ rfl rfl rfl rfl ?_
                          refine WN.skip _ rfl rfl rfl rfl ?_
                          refine WN.skip _ rfl rfl rfl rfl ?_
                          refine WN.step _ rfl (SO.skip rfl rfl rfl ?_)
                          refine ⟨trivial, ?_⟩
                          refine WN.skip _ rfl rfl rfl rfl ?_
                          refine WN.calm _ rfl rfl rfl rfl rfl (fun _ => r_pickF rfl (ev_t rfl) ev_c) ?_
                          refine WN.calm _ rfl rfl rfl rfl rfl (fun _ => r_move rfl (ev_t rfl)) ?_
                          refine WN.skip _ rfl rfl rfl rfl ?_
                          refine WN.skip _ rfl rfl rfl rfl ?_
                          refine WN.skip _ rfl rfl rfl rfl ?_
                          refine WN.skip _ rfl rfl rfl rfl ?_
                          refine WN.skip _ rfl rfl rfl rfl ?_
                          refine WN.skip _ rfl rfl rfl rfl ?_
                          refine WN.fork _ _ rfl rfl ?_ ?_
                          · refine SO.val rfl rfl rfl rfl (r_toStr rfl (ev_t rfl) ((ho3.rd (by omega)).sliceB (lo := (encU a.length ++ a).length) (h := (encU a.length ++ a ++ (encU b.length ++ b)).length) (by omega) (by omega)) elem_37 int_5 str_9) ?_
                            refine ⟨trivial, ?_⟩
                            refine WN.step _ rfl (SO.skip rfl rfl rfl ?_)
                            refine ⟨trivial, ?_⟩
                            refine WN.step _ rfl (SO.skip rfl rfl rfl ?_)
                            refine ⟨trivial, ?_⟩
                            refine WN.step _ rfl (SO.skip rfl rfl rfl ?_)
                            refine ⟨trivial, ?_⟩
                            refine WN.skip _ rfl rfl rfl rfl ?_
                            refine WN.calm _ rfl rfl rfl rfl rfl (fun _ => r_pickF rfl (ev_t rfl) ev_c) ?_
                            refine WN.calm _ rfl rfl rfl rfl rfl (fun _ => r_assign rfl (ev_t rfl)) ?_
                            refine WN.done ?_
                            refine WX.keep [(4, _)] ⟨rfl, trivial⟩ ?_
                            refine WX.next ?_
                            refine WC.ret ?_
                            refine WX.retE1 rfl rfl ?_
                            rw [mk_toList, mk_toList, List.drop_left, hla, Nat.add_sub_cancel_left, List.take_length]
                            exact ⟨by simp, hU⟩
                          · refine SO.call (wbytes_ok (IsW.of (M := At _) hB12 rfl) hr2 (fun k hk hM => by have := hF' k hk; simp only [At] at hM; omega) (by simp; omega)) rfl body_23 ⟨(ev_t rfl), (ev_t rfl), trivial⟩ rfl rfl rfl rfl ?_
                            rintro v w21 ⟨rfl, hD, hu21⟩
                            rw [List.nil_append] at hD
                            have hs21 := hu21.size
                            replace hU := hU.fresh hu21 (by first | exact (fun _ h => h.elim) | (intro k hk; simp only [At, New, Grow, From, No] at hk; omega))
                            replace hr1 := hr1.upd hu21 (by first | exact (fun _ _ _ h => h) | (intro k hk hl hS; have := hF k hk; simp only [At, New, Grow, From, No] at hS; omega))
                            replace hr2 := hr2.upd hu21 (by first | exact (fun _ _ _ h => h) | (intro k hk hl hS; have := hF' k hk; simp only [At, New, Grow, From, No] at hS; omega))
                            replace ho2 := ho2.upd hu21 (by first | (with_reducible assumption) | exact (fun h => h) | exact (fun _ _ _ h => h) | (simp only [At]; omega) | (intro k hk hl hS; simp only [At] at hS; subst hS; contradiction) | (intro k hk hl hS; simp only [At] at hS; subst hS; exact Grow.old (by omega) (by assumption) hk) | (intro k hk hl hS; (try simp only [At, From, No, Grow, New] at hk hS); omega))
                            replace ho3 := ho3.upd hu21 (by first | (with_reducible assumption) | exact (fun h => h) | exact (fun _ _ _ h => h) | (simp only [At]; omega) | (intro k hk hl hS; simp only [At] at hS; subst hS; contradiction) | (intro k hk hl hS; simp only [At] at hS; subst hS; exact Grow.old (by omega) (by assumption) hk) | (intro k hk hl hS; (try simp only [At, From, No, Grow, New] at hk hS); omega))
                            refine ⟨trivial, ?_⟩
                            refine WN.fork _ _ rfl rfl ?_ ?_
                            · refine SO.val rfl rfl rfl rfl (r_toStr rfl (ev_t rfl) ((ho3.rd (by omega)).sliceB (lo := (encU a.length ++ a).length) (h := (encU a.length ++ a ++ (encU b.length ++ b)).length) (by omega) (by omega)) elem_37 int_5 str_9) ?_
                              refine ⟨trivial, ?_⟩
                              refine WN.step _ rfl (SO.skip rfl rfl rfl ?_)
                              refine ⟨trivial, ?_⟩
                              refine WN.step _ rfl (SO.skip rfl rfl rfl ?_)
                              refine ⟨trivial, ?_⟩
                              refine WN.skip _ rfl rfl rfl rfl ?_
                              refine WN.calm _ rfl rfl rfl rfl rfl (fun _ => r_pickF rfl (ev_t rfl) ev_c) ?_
                              refine WN.calm _ rfl rfl rfl rfl rfl (fun _ => r_assign rfl (ev_t rfl)) ?_
                              refine WN.done ?_
                              refine WX.keep [(4, _)] ⟨rfl, trivial⟩ ?_
                              refine WX.next ?_
                              refine WC.ret ?_
                              refine WX.retE1 rfl rfl ?_
                              rw [mk_toList, mk_toList, List.drop_left, hla, Nat.add_sub_cancel_left, List.take_length]
                              exact ⟨by simp, hU⟩
                            · refine SO.call (wdone_ok hD (by omega)) rfl body_21 ⟨(ev_t rfl), trivial⟩ rfl rfl rfl rfl ?_
                              rintro v4 w22 ⟨ho4, hu22⟩
                              have hs22 := hu22.size
                              replace hU := hU.fresh hu22 (by first | exact (fun _ h => h.elim) | (intro k hk; simp only [At, New, Grow, From, No] at hk; omega))
                              replace hr1 := hr1.upd hu22 (by first | exact (fun _ _ _ h => h) | (intro k hk hl hS; have := hF k hk; simp only [At, New, Grow, From, No] at hS; omega))
                              replace hr2 := hr2.upd hu22 (by first | exact (fun _ _ _ h => h) | (intro k hk hl hS; have := hF' k hk; simp only [At, New, Grow, From, No] at hS; omega))
                              replace ho2 := ho2.upd hu22 (by first | (with_reducible assumption) | exact (fun h => h) | exact (fun _ _ _ h => h) | (simp only [At]; omega) | (intro k hk hl hS; simp only [At] at hS; subst hS; contradiction) | (intro k hk hl hS; simp only [At] at hS; subst hS; exact Grow.old (by omega) (by assumption) hk) | (intro k hk hl hS; (try simp only [At, From, No, Grow, New] at hk hS); omega))
                              replace ho3 := ho3.upd hu22 (by first | (with_reducible assumption) | exact (fun h => h) | exact (fun _ _ _ h => h) | (simp only [At]; omega) | (intro k hk hl hS; simp only [At] at hS; subst hS; contradiction) | (intro k hk hl hS; simp only [At] at hS; subst hS; exact Grow.old (by omega) (by assumption) hk) | (intro k hk hl hS; (try simp only [At, From, No, Grow, New] at hk hS); omega))
                              replace hD := hD.upd hu22 (by first | (with_reducible assumption) | exact (fun h => h) | exact (fun _ _ _ h => h) | (simp only [At]; omega) | (intro k hk hl hS; simp only [At] at hS; subst hS; contradiction) | (intro k hk hl hS; simp only [At] at hS; subst hS; exact Grow.old (by omega) (by assumption) hk) | (intro k hk hl hS; (try simp only [At, From, No, Grow, New] at hk hS); omega))
                              obtain ⟨B4, k4, rfl, hk4⟩ := Own.form ho4
                              refine ⟨trivial, ?_⟩
                              refine WN.fork _ _ rfl rfl ?_ ?_
                              · refine SO.val rfl rfl rfl rfl (r_toStr rfl (ev_t rfl) ((ho3.rd (by omega)).sliceB (lo := (encU a.length ++ a).length) (h := (encU a.length ++ a ++ (encU b.length ++ b)).length) (by omega) (by omega)) elem_37 int_5 str_9) ?_
                                refine ⟨trivial, ?_⟩
                                refine WN.step _ rfl (SO.skip rfl rfl rfl ?_)
                                refine ⟨trivial, ?_⟩
                                refine WN.skip _ rfl rfl rfl rfl ?_
                                refine WN.calm _ rfl rfl rfl rfl rfl (fun _ => r_pickF rfl (ev_t rfl) ev_c) ?_
                                refine WN.calm _ rfl rfl rfl rfl rfl (fun _ => r_assign rfl (ev_t rfl)) ?_
                                refine WN.done ?_
                                refine WX.keep [(4, _)] ⟨rfl, trivial⟩ ?_
                                refine WX.next ?_
                                refine WC.ret ?_
                                refine WX.retE1 rfl rfl ?_
                                rw [mk_toList, mk_toList, List.drop_left, hla, Nat.add_sub_cancel_left, List.take_length]
                                exact ⟨by simp, hU⟩
                              · refine SO.val rfl rfl rfl rfl (r_toStr rfl (ev_t rfl) (ho4.rd (by omega)) elem_37 int_5 str_9) ?_
                                refine ⟨trivial, ?_⟩
                                refine WN.step _ rfl (SO.skip rfl rfl rfl ?_)
                                refine ⟨trivial, ?_⟩
                                refine WN.skip _ rfl rfl rfl rfl ?_
                                refine WN.calm _ rfl rfl rfl rfl rfl (fun _ => r_pickF rfl (ev_t rfl) ev_c) ?_
                                refine WN.calm _ rfl rfl rfl rfl rfl (fun _ => r_assign rfl (ev_t rfl)) ?_
                                refine WN.done ?_
                                refine WX.keep [(4, _)] ⟨rfl, trivial⟩ ?_
                                refine WX.next ?_
                                refine WC.ret ?_
                                refine WX.retE1 rfl rfl ?_
                                rw [mk_toList, mk_toList, List.drop_left, hla, Nat.add_sub_cancel_left, List.take_length]
                                exact ⟨by simp, hU⟩
                  · try (exfalso; first | (simp at hb12_4; done) | (simp only [decide_eq_true_eq, decide_eq_false_iff_not, Bool.not_eq_true', Bool.not_eq_false', Bool.not_eq_true, Bool.not_eq_false] at hb12_4; omega) | omega)
                    all_goals
                      try simp only [decide_eq_true_eq, decide_eq_false_iff_not, Bool.not_eq_true', Bool.not_eq_false', Bool.not_eq_true, Bool.not_eq_false, Option.isNone_none, Option.isNone_some, Option.isSome_none, Option.isSome_some, ne_eq, Decidable.not_not] at hb12_4
                      refine WN.skip _ rfl rfl rfl rfl ?_
                      refine WN.skip _ rfl rfl rfl rfl ?_
                      refine WN.skip _ rfl rfl rfl rfl ?_
                      refine WN.skip _ rfl rfl rfl rfl ?_
                      refine WN.skip _ rfl rfl rfl rfl ?_
                      refine WN.calm _ rfl rfl rfl rfl rfl (fun _ => r_pickF rfl (ev_t rfl) ev_c) ?_
                      refine WN.calm _ rfl rfl rfl rfl rfl (fun _ => r_move rfl (ev_t rfl)) ?_
                      refine WN.skip _ rfl rfl rfl rfl ?_
                      refine WN.skip _ rfl rfl rfl rfl ?_
                      refine WN.skip _ rfl rfl rfl rfl ?_
                      refine WN.skip _ rfl rfl rfl rfl ?_
                      refine WN.step _ rfl (SO.skip rfl rfl rfl ?_)
                      refine ⟨trivial, ?_⟩
                      refine WN.skip _ rfl rfl rfl rfl ?_
                      refine WN.calm _ rfl rfl rfl rfl rfl (fun _ => r_pickF rfl (ev_t rfl) ev_c) ?_
                      refine WN.calm _ rfl rfl rfl rfl rfl (fun _ => r_move rfl (ev_t rfl)) ?_
                      refine WN.skip _ rfl rfl rfl rfl ?_
                      refine WN.skip _ rfl rfl rfl rfl ?_
                      refine WN.skip _ rfl rfl rfl rfl ?_
                      refine WN.skip _ rfl rfl rfl rfl ?_
                      refine WN.skip _ rfl rfl rfl rfl ?_
                      refine WN.skip _ rfl rfl rfl rfl ?_
                      refine WN.fork _ _ rfl rfl ?_ ?_
                      · refine SO.val rfl rfl rfl rfl (r_toStr rfl (ev_t rfl) ((ho3.rd (by omega)).sliceB (lo := (encU a.length ++ a).length) (h := (encU a.length ++ a ++ (encU b.length ++ b)).length) (by omega) (by omega)) elem_37 int_5 str_9) ?_
                        refine ⟨trivial, ?_⟩
                        refine WN.step _ rfl (SO.skip rfl rfl rfl ?_)
                        refine ⟨trivial, ?_⟩
                        refine WN.step _ rfl (SO.skip rfl rfl rfl ?_)
                        refine ⟨trivial, ?_⟩
                        refine WN.step _ rfl (SO.skip rfl rfl rfl ?_)
                        refine ⟨trivial, ?_⟩
                        refine WN.skip _ rfl rfl rfl rfl ?_
                        refine WN.calm _ rfl rfl rfl rfl rfl (fun _ => r_pickF rfl (ev_t rfl) ev_c) ?_
                        refine WN.calm _ rfl rfl rfl rfl rfl (fun _ => r_assign rfl (ev_t rfl)) ?_
                        refine WN.done ?_
                        refine WX.keep [(4, _)] ⟨rfl, trivial⟩ ?_
                        refine WX.next ?_
                        refine WC.ret ?_
                        refine WX.retE1 rfl rfl ?_
                        rw [mk_toList, mk_toList, List.drop_left, hla, Nat.add_sub_cancel_left, List.take_length]
                        exact ⟨by simp, hU⟩
                      · refine SO.call (wbytes_ok (IsW.of (M := At _) hB12 rfl) hr2 (fun k hk hM => by have := hF' k hk; simp only [At] at hM; omega) (by simp; omega)) rfl body_23 ⟨(ev_t rfl), (ev_t rfl), trivial⟩ rfl rfl rfl rfl ?_
                        rintro v w23 ⟨rfl, hD, hu23⟩
                        rw [List.nil_append] at hD
                        have hs23 := hu23.size
                        replace hU := hU.fresh hu23 (by first | exact (fun _ h => h.elim) | (intro k hk; simp only [At, New, Grow, From, No] at hk; omega))
                        replace hr1 := hr1.upd hu23 (by first | exact (fun _ _ _ h => h) | (intro k hk hl hS; have := hF k hk; simp only [At, New, Grow, From, No] at hS; omega))
                        replace hr2 := hr2.upd hu23 (by first | exact (fun _ _ _ h => h) | (intro k hk hl hS; have := hF' k hk; simp only [At, New, Grow, From, No] at hS; omega))
                        replace ho2 := ho2.upd hu23 (by first | (with_reducible assumption) | exact (fun h => h) | exact (fun _ _ _ h => h) | (simp only [At]; omega) | (intro k hk hl hS; simp only [At] at hS; subst hS; contradiction) | (intro k hk hl hS; simp only [At] at hS; subst hS; exact Grow.old (by omega) (by assumption) hk) | (intro k hk hl hS; (try simp only [At, From, No, Grow, New] at hk hS); omega))
                        replace ho3 := ho3.upd hu23 (by first | (with_reducible assumption) | exact (fun h => h) | exact (fun _ _ _ h => h) | (simp only [At]; omega) | (intro k hk hl hS; simp only [At] at hS; subst hS; contradiction) | (intro k hk hl hS; simp only [At] at hS; subst hS; exact Grow.old (by omega) (by assumption) hk) | (intro k hk hl hS; (try simp only [At, From, No, Grow, New] at hk hS); omega))
                        refine ⟨trivial, ?_⟩
                        refine WN.fork _ _ rfl rfl ?_ ?_
                        · refine SO.val rfl rfl rfl rfl (r_toStr rfl (ev_t rfl) ((ho3.rd (by omega)).sliceB (lo := (encU a.length ++ a).length) (h := (encU a.length ++ a ++ (encU b.length ++ b)).length) (by omega) (by omega)) elem_37 int_5 str_9) ?_
                          refine ⟨trivial, ?_⟩
                          refine WN.step _ rfl (SO.skip rfl rfl rfl ?_)
                          refine ⟨trivial, ?_⟩
                          refine WN.step _ rfl (SO.skip rfl rfl rfl ?_)
                          refine ⟨trivial, ?_⟩
                          refine WN.skip _ rfl rfl rfl rfl ?_
                          refine WN.calm _ rfl rfl rfl rfl rfl (fun _ => r_pickF rfl (ev_t rfl) ev_c) ?_
                          refine WN.calm _ rfl rfl rfl rfl rfl (fun _ => r_assign rfl (ev_t rfl)) ?_
                          refine WN.done ?_
                          refine WX.keep [(4, _)] ⟨rfl, trivial⟩ ?_
                          refine WX.next ?_
                          refine WC.ret ?_
                          refine WX.retE1 rfl rfl ?_
                          rw [mk_toList, mk_toList, List.drop_left, hla, Nat.add_sub_cancel_left, List.take_length]
                          exact ⟨by simp, hU⟩
                        · refine SO.call (wdone_ok hD (by omega)) rfl body_21 ⟨(ev_t rfl), trivial⟩ rfl rfl rfl rfl ?_
                          rintro v4 w24 ⟨ho4, hu24⟩
                          have hs24 := hu24.size
                          replace hU := hU.fresh hu24 (by first | exact (fun _ h => h.elim) | (intro k hk; simp only [At, New, Grow, From, No] at hk; omega))
                          replace hr1 := hr1.upd hu24 (by first | exact (fun _ _ _ h => h) | (intro k hk hl hS; have := hF k hk; simp only [At, New, Grow, From, No] at hS; omega))
                          replace hr2 := hr2.upd hu24 (by first | exact (fun _ _ _ h => h) | (intro k hk hl hS; have := hF' k hk; simp only [At, New, Grow, From, No] at hS; omega))
                          replace ho2 := ho2.upd hu24 (by first | (with_reducible assumption) | exact (fun h => h) | exact (fun _ _ _ h => h) | (simp only [At]; omega) | (intro k hk hl hS; simp only [At] at hS; subst hS; contradiction) | (intro k hk hl hS; simp only [At] at hS; subst hS; exact Grow.old (by omega) (by assumption) hk) | (intro k hk hl hS; (try simp only [At, From, No, Grow, New] at hk hS); omega))
                          replace ho3 := ho3.upd hu24 (by first | (with_reducible assumption) | exact (fun h => h) | exact (fun _ _ _ h => h) | (simp only [At]; omega) | (intro k hk hl hS; simp only [At] at hS; subst hS; contradiction) | (intro k hk hl hS; simp only [At] at hS; subst hS; exact Grow.old (by omega) (by assumption) hk) | (intro k hk hl hS; (try simp only [At, From, No, Grow, New] at hk hS); omega))
                          replace hD := hD.upd hu24 (by first | (with_reducible assumption) | exact (fun h => h) | exact (fun _ _ _ h => h) | (simp only [At]; omega) | (intro k hk hl hS; simp only [At] at hS; subst hS; contradiction) | (intro k hk hl hS; simp only [At] at hS; subst hS; exact Grow.old (by omega) (by assumption) hk) | (intro k hk hl hS; (try simp only [At, From, No, Grow, New] at hk hS); omega))
                          obtain ⟨B4, k4, rfl, hk4⟩ := Own.form ho4
                          refine ⟨trivial, ?_⟩
                          refine WN.fork _ _ rfl rfl ?_ ?_
                          · refine SO.val rfl rfl rfl rfl (r_toStr rfl (ev_t rfl) ((ho3.rd (by omega)).sliceB (lo := (encU a.length ++ a).length) (h := (encU a.length ++ a ++ (encU b.length ++ b)).length) (by omega) (by omega)) elem_37 int_5 str_9) ?_
                            refine ⟨trivial, ?_⟩
                            refine WN.step _ rfl (SO.skip rfl rfl rfl ?_)
                            refine ⟨trivial, ?_⟩
                            refine WN.skip _ rfl rfl rfl rfl ?_
                            refine WN.calm _ rfl rfl rfl rfl rfl (fun _ => r_pickF rfl (ev_t rfl) ev_c) ?_
                            refine WN.calm _ rfl rfl rfl rfl rfl (fun _ => r_assign rfl (ev_t rfl)) ?_
                            refine WN.done ?_
                            refine WX.keep [(4, _)] ⟨rfl, trivial⟩ ?_
                            refine WX.next ?_
                            refine WC.ret ?_
                            refine WX.retE1 rfl rfl ?_
                            rw [mk_toList, mk_toList, List.drop_left, hla, Nat.add_sub_cancel_left, List.take_length]
                            exact ⟨by simp, hU⟩
                          · refine SO.val rfl rfl rfl rfl (r_toStr rfl (ev_t rfl) (ho4.rd (by omega)) elem_37 int_5 str_9) ?_
                            refine ⟨trivial, ?_⟩
                            refine WN.step _ rfl (SO.skip rfl rfl rfl ?_)
                            refine ⟨trivial, ?_⟩
                            refine WN.skip _ rfl rfl rfl rfl ?_
                            refine WN.calm _ rfl rfl rfl rfl rfl (fun _ => r_pickF rfl (ev_t rfl) ev_c) ?_
                            refine WN.calm _ rfl rfl rfl rfl rfl (fun _ => r_assign rfl (ev_t rfl)) ?_
                            refine WN.done ?_
                            refine WX.keep [(4, _)] ⟨rfl, trivial⟩ ?_
                            refine WX.next ?_
                            refine WC.ret ?_
                            refine WX.retE1 rfl rfl ?_
                            rw [mk_toList, mk_toList, List.drop_left, hla, Nat.add_sub_cancel_left, List.take_length]
                            exact ⟨by simp, hU⟩

theorem octetDone.walk {W : World} {p q : Value} {a b : List UInt8} (hr1 : Rd W (fun k => k < W.heap.size) p a.length 1 (a.map U8)) (ha : a.length ≤ 140737488351232) (hr2 : Rd W (fun k => k < W.heap.size) q b.length 1 (b.map U8)) (hb : b.length ≤ 140737488351232) :
    Ret Try.prog 7 #[p, q] W fun v W' => v = .bool true ∧ Upd No W W' :=
  done_walk hr1 hr2 (fun _ h => h) (fun _ h => h) ha hb
end Go.Proofs.Ytjiafgnibhgfbaa
