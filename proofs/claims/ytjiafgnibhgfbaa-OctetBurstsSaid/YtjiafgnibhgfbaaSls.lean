/-
  octet: any bytes sealed, and back; any bytes as sealed ones: the walk.
-/
import Derived.Test.YtjiafgnibhgfbaaRef
import Derived.Test.YtjiafgnibhgfbaaAwo
namespace Go.Proofs.Ytjiafgnibhgfbaa
open Go
set_option linter.unusedSimpArgs false
set_option linter.unusedVariables false

theorem open_seal (l : List UInt8) : openB (sealB l) = (l, 0) := by
  have h := sealB_length l
  have h1 : (sealB l).take ((sealB l).length - 4) = l := by
    rw [h, Nat.add_sub_cancel]
    exact List.take_left
  unfold openB
  rw [if_neg (by omega), h1, if_pos rfl]

theorem openB_length (l : List UInt8) : (openB l).1.length ≤ l.length := by
  unfold openB
  split
  · simp
  · split
    · simp only [List.length_take]; omega
    · simp

theorem octetSeals.walk {w : World} {p q : Value} {a b : List UInt8} (hr1 : Rd w (fun k => k < w.heap.size) p a.length 1 (a.map U8)) (ha : a.length ≤ 140737488351232) (hr2 : Rd w (fun k => k < w.heap.size) q b.length 1 (b.map U8)) (hb : b.length ≤ 140737488351232) :
    Ret Try.prog 11 #[p, q] w fun v w' => v = .bool true ∧ Upd No w w' := by
  have hsl := sealB_length a
  have hob := openB_length b
  obtain ⟨A1, c1, rfl, hle1⟩ := hr1.slice_form
  obtain ⟨A2, c2, rfl, hle2⟩ := hr2.slice_form
  refine enterRet (vs := [_, _]) (N := 67) Try.func11 rfl rfl rfl ?_
  have hU := Upd.refl No w
  refine WC.keep [(0, _), (1, _)] ⟨rfl, rfl, trivial⟩ ?_
  refine WC.seq ?_
  -- region 0 law.go:106
  refine WC.region ?_
  refine WL.val rfl rfl rfl rfl (r_assign rfl ev_c) ?_
  refine WL.nil ?_
  refine WX.keep [(0, _), (1, _)] ⟨rfl, rfl, trivial⟩ ?_
  refine WX.next ?_
  refine WC.seq ?_
  refine WC.seq ?_
  -- region 1 law.go:107
  refine WC.region ?_
  refine WL.cons (SO.call (awake1_ok _) rfl body_19 trivial rfl rfl rfl rfl ?_)
  rintro v w1 ⟨rfl, hu1⟩
  have hs1 := hu1.size
  replace hU := hU.fresh hu1 (by first | exact (fun _ h => h.elim) | (intro k hk; simp only [At, New, Grow, From, No] at hk; omega))
  replace hr1 := hr1.upd hu1 (by first | (with_reducible assumption) | exact (fun h => h) | exact (fun _ _ _ h => h) | (simp only [At]; omega) | (intro k hk hl hS; simp only [At] at hS; subst hS; contradiction) | (intro k hk hl hS; simp only [At] at hS; subst hS; exact Grow.old (by omega) (by assumption) hk) | (intro k hk hl hS; (try simp only [At, From, No, Grow, New] at hk hS); omega))
  replace hr2 := hr2.upd hu1 (by first | (with_reducible assumption) | exact (fun h => h) | exact (fun _ _ _ h => h) | (simp only [At]; omega) | (intro k hk hl hS; simp only [At] at hS; subst hS; contradiction) | (intro k hk hl hS; simp only [At] at hS; subst hS; exact Grow.old (by omega) (by assumption) hk) | (intro k hk hl hS; (try simp only [At, From, No, Grow, New] at hk hS); omega))
  refine WL.val rfl rfl rfl rfl (r_not rfl (ev_t rfl)) ?_
  refine WL.val rfl rfl rfl rfl (r_move rfl (ev_t rfl)) ?_
  refine WL.cases 14 rfl (fun hb1_2 => ?_) (fun hb1_2 => ?_)
  · try (exfalso; first | (simp at hb1_2; done) | (simp only [decide_eq_true_eq, decide_eq_false_iff_not, Bool.not_eq_true', Bool.not_eq_false', Bool.not_eq_true, Bool.not_eq_false] at hb1_2; omega) | omega)
    all_goals
      try simp only [decide_eq_true_eq, decide_eq_false_iff_not, Bool.not_eq_true', Bool.not_eq_false', Bool.not_eq_true, Bool.not_eq_false, Option.isNone_none, Option.isNone_some, Option.isSome_none, Option.isSome_some, ne_eq, Decidable.not_not] at hb1_2
      refine WL.skip rfl rfl rfl ?_
      refine WL.skip rfl rfl rfl ?_
      refine WL.skip rfl rfl rfl ?_
      refine WL.skip rfl rfl rfl ?_
      refine WL.skip rfl rfl rfl ?_
      refine WL.val rfl rfl rfl rfl (r_pickT rfl (ev_t rfl) ev_c) ?_
      refine WL.nil ?_
      refine WX.keep [(0, _), (1, _), (20, _)] ⟨rfl, rfl, rfl, trivial⟩ ?_
      refine WX.next ?_
      refine WC.cond_true rfl (ev_t rfl) ?_
      refine WC.seq ?_
      -- region 2 law.go:108
      refine WC.region ?_
      refine WL.val rfl rfl rfl rfl (r_assign rfl ev_c) ?_
      refine WL.nil ?_
      refine WX.keep [(4, _)] ⟨rfl, trivial⟩ ?_
      refine WX.next ?_
      refine WC.ret ?_
      refine WX.thenRet ?_
      refine WX.retE1 rfl rfl ?_
      exact ⟨by simp, hU⟩
  · try (exfalso; first | (simp at hb1_2; done) | (simp only [decide_eq_true_eq, decide_eq_false_iff_not, Bool.not_eq_true', Bool.not_eq_false', Bool.not_eq_true, Bool.not_eq_false] at hb1_2; omega) | omega)
    all_goals
      try simp only [decide_eq_true_eq, decide_eq_false_iff_not, Bool.not_eq_true', Bool.not_eq_false', Bool.not_eq_true, Bool.not_eq_false, Option.isNone_none, Option.isNone_some, Option.isSome_none, Option.isSome_some, ne_eq, Decidable.not_not] at hb1_2
      refine WL.val rfl rfl rfl rfl (r_move rfl (ev_t rfl)) ?_
      refine WL.cons (SO.call (sum_ok hr1) rfl body_28 ⟨(ev_t rfl), trivial⟩ rfl rfl rfl rfl ?_)
      rintro v w2 ⟨rfl, rfl⟩
      refine WL.val rfl rfl rfl rfl (r_move rfl (ev_t rfl)) ?_
      refine WL.cons (SO.call (refSum_ok hr1) rfl body_29 ⟨(ev_t rfl), trivial⟩ rfl rfl rfl rfl ?_)
      rintro v w3 ⟨rfl, rfl⟩
      refine WL.val rfl rfl rfl rfl (r_neq rfl (ev_t rfl) (ev_t rfl)) ?_
      refine WL.val rfl rfl rfl rfl (r_pickF rfl (ev_t rfl) (ev_t rfl)) ?_
      refine WL.nil ?_
      refine WX.keep [(0, _), (1, _), (20, _)] ⟨rfl, rfl, rfl, trivial⟩ ?_
      refine WX.next ?_
      refine WC.cond rfl (ev_t rfl) (fun hc1 => ?_) (fun hc1 => ?_)
      · try (exfalso; first | (simp at hc1; done) | (simp only [decide_eq_true_eq, decide_eq_false_iff_not, Bool.not_eq_true', Bool.not_eq_false', Bool.not_eq_true, Bool.not_eq_false] at hc1; omega) | omega)
        all_goals
          try simp only [decide_eq_true_eq, decide_eq_false_iff_not, Bool.not_eq_true', Bool.not_eq_false', Bool.not_eq_true, Bool.not_eq_false, Option.isNone_none, Option.isNone_some, Option.isSome_none, Option.isSome_some, ne_eq, Decidable.not_not] at hc1
          refine WC.seq ?_
          -- region 2 law.go:108
          refine WC.region ?_
          refine WL.val rfl rfl rfl rfl (r_assign rfl ev_c) ?_
          refine WL.nil ?_
          refine WX.keep [(4, _)] ⟨rfl, trivial⟩ ?_
          refine WX.next ?_
          refine WC.ret ?_
          refine WX.thenRet ?_
          refine WX.retE1 rfl rfl ?_
          exact ⟨by simp, hU⟩
      · try (exfalso; first | (simp at hc1; done) | (simp only [decide_eq_true_eq, decide_eq_false_iff_not, Bool.not_eq_true', Bool.not_eq_false', Bool.not_eq_true, Bool.not_eq_false] at hc1; omega) | omega)
        all_goals
          try simp only [decide_eq_true_eq, decide_eq_false_iff_not, Bool.not_eq_true', Bool.not_eq_false', Bool.not_eq_true, Bool.not_eq_false, Option.isNone_none, Option.isNone_some, Option.isSome_none, Option.isSome_some, ne_eq, Decidable.not_not] at hc1
          refine WC.skip ?_
          refine WX.next ?_
          refine WC.seq ?_
          -- region 3 law.go:110
          refine WC.region ?_
          refine WL.val rfl rfl rfl rfl (r_move rfl (ev_t rfl)) ?_
          refine WL.cons (SO.call (seal_ok hr1 (by omega)) rfl body_30 ⟨(ev_t rfl), trivial⟩ rfl rfl rfl rfl ?_)
          rintro v w4 ⟨ho1, hu4⟩
          have hs4 := hu4.size
          replace hU := hU.fresh hu4 (by first | exact (fun _ h => h.elim) | (intro k hk; simp only [At, New, Grow, From, No] at hk; omega))
          replace hr1 := hr1.upd hu4 (by first | (with_reducible assumption) | exact (fun h => h) | exact (fun _ _ _ h => h) | (simp only [At]; omega) | (intro k hk hl hS; simp only [At] at hS; subst hS; contradiction) | (intro k hk hl hS; simp only [At] at hS; subst hS; exact Grow.old (by omega) (by assumption) hk) | (intro k hk hl hS; (try simp only [At, From, No, Grow, New] at hk hS); omega))
          replace hr2 := hr2.upd hu4 (by first | (with_reducible assumption) | exact (fun h => h) | exact (fun _ _ _ h => h) | (simp only [At]; omega) | (intro k hk hl hS; simp only [At] at hS; subst hS; contradiction) | (intro k hk hl hS; simp only [At] at hS; subst hS; exact Grow.old (by omega) (by assumption) hk) | (intro k hk hl hS; (try simp only [At, From, No, Grow, New] at hk hS); omega))
          obtain ⟨B1, k1, rfl, hk1⟩ := Own.form ho1
          refine WL.val rfl rfl rfl rfl (r_assign rfl (ev_t rfl)) ?_
          refine WL.nil ?_
          refine WX.keep [(0, _), (1, _), (5, _)] ⟨rfl, rfl, rfl, trivial⟩ ?_
          refine WX.next ?_
          refine WC.seq ?_
          -- region 4 law.go:111
          refine WC.region ?_
          refine WL.val rfl rfl rfl rfl (r_move rfl (ev_t rfl)) ?_
          refine WL.cons (SO.call (open_ok (ho1.rd (by omega)) (by omega)) rfl body_31 ⟨(ev_t rfl), trivial⟩ rfl rfl rfl rfl ?_)
          rintro v w5 ⟨u1, rfl, ho2, hu5⟩
          rw [open_seal] at ho2 ⊢
          dsimp only at ho2
          have hs5 := hu5.size
          replace hU := hU.fresh hu5 (by first | exact (fun _ h => h.elim) | (intro k hk; simp only [At, New, Grow, From, No] at hk; omega))
          replace hr1 := hr1.upd hu5 (by first | (with_reducible assumption) | exact (fun h => h) | exact (fun _ _ _ h => h) | (simp only [At]; omega) | (intro k hk hl hS; simp only [At] at hS; subst hS; contradiction) | (intro k hk hl hS; simp only [At] at hS; subst hS; exact Grow.old (by omega) (by assumption) hk) | (intro k hk hl hS; (try simp only [At, From, No, Grow, New] at hk hS); omega))
          replace hr2 := hr2.upd hu5 (by first | (with_reducible assumption) | exact (fun h => h) | exact (fun _ _ _ h => h) | (simp only [At]; omega) | (intro k hk hl hS; simp only [At] at hS; subst hS; contradiction) | (intro k hk hl hS; simp only [At] at hS; subst hS; exact Grow.old (by omega) (by assumption) hk) | (intro k hk hl hS; (try simp only [At, From, No, Grow, New] at hk hS); omega))
          replace ho1 := ho1.upd hu5 (by first | (with_reducible assumption) | exact (fun h => h) | exact (fun _ _ _ h => h) | (simp only [At]; omega) | (intro k hk hl hS; simp only [At] at hS; subst hS; contradiction) | (intro k hk hl hS; simp only [At] at hS; subst hS; exact Grow.old (by omega) (by assumption) hk) | (intro k hk hl hS; (try simp only [At, From, No, Grow, New] at hk hS); omega))
          obtain ⟨B2, k2, rfl, hk2⟩ := Own.form ho2
          refine WL.val rfl rfl rfl rfl (r_move rfl (ev_t rfl)) ?_
          refine WL.val rfl rfl rfl rfl (r_extract rfl (ev_t rfl) rfl) ?_
          refine WL.val rfl rfl rfl rfl (r_extract rfl (ev_t rfl) rfl) ?_
          refine WL.val rfl rfl rfl rfl (r_assign rfl (ev_t rfl)) ?_
          refine WL.val rfl rfl rfl rfl (r_assign rfl (ev_t rfl)) ?_
          refine WL.nil ?_
          refine WX.keep [(0, _), (1, _), (5, _), (6, _), (7, _)] ⟨rfl, rfl, rfl, rfl, rfl, trivial⟩ ?_
          refine WX.next ?_
          refine WC.seq ?_
          -- region 5 law.go:112
          refine WC.region ?_
          refine WL.val rfl rfl rfl rfl (r_move rfl (ev_t rfl)) ?_
          refine WL.cons (SO.call (open_ok hr2 (by omega)) rfl body_31 ⟨(ev_t rfl), trivial⟩ rfl rfl rfl rfl ?_)
          rintro v w6 ⟨u2, rfl, ho3, hu6⟩
          have hs6 := hu6.size
          replace hU := hU.fresh hu6 (by first | exact (fun _ h => h.elim) | (intro k hk; simp only [At, New, Grow, From, No] at hk; omega))
          replace hr1 := hr1.upd hu6 (by first | (with_reducible assumption) | exact (fun h => h) | exact (fun _ _ _ h => h) | (simp only [At]; omega) | (intro k hk hl hS; simp only [At] at hS; subst hS; contradiction) | (intro k hk hl hS; simp only [At] at hS; subst hS; exact Grow.old (by omega) (by assumption) hk) | (intro k hk hl hS; (try simp only [At, From, No, Grow, New] at hk hS); omega))
          replace hr2 := hr2.upd hu6 (by first | (with_reducible assumption) | exact (fun h => h) | exact (fun _ _ _ h => h) | (simp only [At]; omega) | (intro k hk hl hS; simp only [At] at hS; subst hS; contradiction) | (intro k hk hl hS; simp only [At] at hS; subst hS; exact Grow.old (by omega) (by assumption) hk) | (intro k hk hl hS; (try simp only [At, From, No, Grow, New] at hk hS); omega))
          replace ho1 := ho1.upd hu6 (by first | (with_reducible assumption) | exact (fun h => h) | exact (fun _ _ _ h => h) | (simp only [At]; omega) | (intro k hk hl hS; simp only [At] at hS; subst hS; contradiction) | (intro k hk hl hS; simp only [At] at hS; subst hS; exact Grow.old (by omega) (by assumption) hk) | (intro k hk hl hS; (try simp only [At, From, No, Grow, New] at hk hS); omega))
          replace ho2 := ho2.upd hu6 (by first | (with_reducible assumption) | exact (fun h => h) | exact (fun _ _ _ h => h) | (simp only [At]; omega) | (intro k hk hl hS; simp only [At] at hS; subst hS; contradiction) | (intro k hk hl hS; simp only [At] at hS; subst hS; exact Grow.old (by omega) (by assumption) hk) | (intro k hk hl hS; (try simp only [At, From, No, Grow, New] at hk hS); omega))
          obtain ⟨B3, k3, rfl, hk3⟩ := Own.form ho3
          refine WL.val rfl rfl rfl rfl (r_move rfl (ev_t rfl)) ?_
          refine WL.val rfl rfl rfl rfl (r_extract rfl (ev_t rfl) rfl) ?_
          refine WL.val rfl rfl rfl rfl (r_extract rfl (ev_t rfl) rfl) ?_
          refine WL.val rfl rfl rfl rfl (r_assign rfl (ev_t rfl)) ?_
          refine WL.val rfl rfl rfl rfl (r_assign rfl (ev_t rfl)) ?_
          refine WL.nil ?_
          refine WX.keep [(0, _), (1, _), (5, _), (6, _), (7, _), (8, _), (9, _)] ⟨rfl, rfl, rfl, rfl, rfl, rfl, rfl, trivial⟩ ?_
          refine WX.next ?_
          refine WC.seq ?_
          -- region 6 law.go:113
          refine WC.region ?_
          refine WL.val rfl rfl rfl rfl (r_move rfl (ev_t rfl)) ?_
          refine WL.cons (SO.call (refOpen_ok hr2 (by omega)) rfl body_32 ⟨(ev_t rfl), trivial⟩ rfl rfl rfl rfl ?_)
          rintro v w7 ⟨u3, rfl, ho4, hu7⟩
          have hs7 := hu7.size
          replace hU := hU.fresh hu7 (by first | exact (fun _ h => h.elim) | (intro k hk; simp only [At, New, Grow, From, No] at hk; omega))
          replace hr1 := hr1.upd hu7 (by first | (with_reducible assumption) | exact (fun h => h) | exact (fun _ _ _ h => h) | (simp only [At]; omega) | (intro k hk hl hS; simp only [At] at hS; subst hS; contradiction) | (intro k hk hl hS; simp only [At] at hS; subst hS; exact Grow.old (by omega) (by assumption) hk) | (intro k hk hl hS; (try simp only [At, From, No, Grow, New] at hk hS); omega))
          replace hr2 := hr2.upd hu7 (by first | (with_reducible assumption) | exact (fun h => h) | exact (fun _ _ _ h => h) | (simp only [At]; omega) | (intro k hk hl hS; simp only [At] at hS; subst hS; contradiction) | (intro k hk hl hS; simp only [At] at hS; subst hS; exact Grow.old (by omega) (by assumption) hk) | (intro k hk hl hS; (try simp only [At, From, No, Grow, New] at hk hS); omega))
          replace ho1 := ho1.upd hu7 (by first | (with_reducible assumption) | exact (fun h => h) | exact (fun _ _ _ h => h) | (simp only [At]; omega) | (intro k hk hl hS; simp only [At] at hS; subst hS; contradiction) | (intro k hk hl hS; simp only [At] at hS; subst hS; exact Grow.old (by omega) (by assumption) hk) | (intro k hk hl hS; (try simp only [At, From, No, Grow, New] at hk hS); omega))
          replace ho2 := ho2.upd hu7 (by first | (with_reducible assumption) | exact (fun h => h) | exact (fun _ _ _ h => h) | (simp only [At]; omega) | (intro k hk hl hS; simp only [At] at hS; subst hS; contradiction) | (intro k hk hl hS; simp only [At] at hS; subst hS; exact Grow.old (by omega) (by assumption) hk) | (intro k hk hl hS; (try simp only [At, From, No, Grow, New] at hk hS); omega))
          replace ho3 := ho3.upd hu7 (by first | (with_reducible assumption) | exact (fun h => h) | exact (fun _ _ _ h => h) | (simp only [At]; omega) | (intro k hk hl hS; simp only [At] at hS; subst hS; contradiction) | (intro k hk hl hS; simp only [At] at hS; subst hS; exact Grow.old (by omega) (by assumption) hk) | (intro k hk hl hS; (try simp only [At, From, No, Grow, New] at hk hS); omega))
          refine WL.val rfl rfl rfl rfl (r_move rfl (ev_t rfl)) ?_
          refine WL.val rfl rfl rfl rfl (r_extract rfl (ev_t rfl) rfl) ?_
          refine WL.val rfl rfl rfl rfl (r_extract rfl (ev_t rfl) rfl) ?_
          refine WL.val rfl rfl rfl rfl (r_assign rfl (ev_t rfl)) ?_
          refine WL.val rfl rfl rfl rfl (r_assign rfl (ev_t rfl)) ?_
          refine WL.nil ?_
          refine WX.keep [(0, _), (5, _), (6, _), (7, _), (8, _), (9, _), (10, _), (11, _)] ⟨rfl, rfl, rfl, rfl, rfl, rfl, rfl, rfl, trivial⟩ ?_
          refine WX.next ?_
          refine WC.seq ?_
          -- region 7 law.go:114 DRAWS
          refine WC.draws' (fun w0 w => Upd No w0 w) (fun j => [0, 2, 0, 2, 2, 0, 0, 0, 0, 0, 0, 0, 2, 0, 2, 0, 0, 0, 0, 0, 0, 0, 0, 0, 2, 0, 2, 0, 0, 0].getD j 0) (.calm 0 (.calm 2 (.two 1 3 (.one 3 (.one 4 (.calm 5 (.calm 6 (.calm 7 (.calm 8 (.calm 9 (.calm 10 (.calm 11 (.calm 13 (.two 12 14 (.one 14 (.calm 15 (.calm 16 (.calm 17 (.calm 18 (.calm 19 (.calm 20 (.calm 21 (.calm 22 (.calm 23 (.calm 25 (.two 24 26 (.one 26 (.calm 27 (.calm 28 (.calm 29 (.done))))) (.one 24 (.calm 27 (.calm 28 (.calm 29 (.done))))))))))))))))) (.one 12 (.calm 15 (.calm 16 (.calm 17 (.calm 18 (.calm 19 (.calm 20 (.calm 21 (.calm 22 (.calm 23 (.calm 25 (.two 24 26 (.one 26 (.calm 27 (.calm 28 (.calm 29 (.done))))) (.one 24 (.calm 27 (.calm 28 (.calm 29 (.done)))))))))))))))))))))))))))) (.two 1 4 (.one 4 (.calm 5 (.calm 6 (.calm 7 (.calm 8 (.calm 9 (.calm 10 (.calm 11 (.calm 13 (.two 12 14 (.one 14 (.calm 15 (.calm 16 (.calm 17 (.calm 18 (.calm 19 (.calm 20 (.calm 21 (.calm 22 (.calm 23 (.calm 25 (.two 24 26 (.one 26 (.calm 27 (.calm 28 (.calm 29 (.done))))) (.one 24 (.calm 27 (.calm 28 (.calm 29 (.done))))))))))))))))) (.one 12 (.calm 15 (.calm 16 (.calm 17 (.calm 18 (.calm 19 (.calm 20 (.calm 21 (.calm 22 (.calm 23 (.calm 25 (.two 24 26 (.one 26 (.calm 27 (.calm 28 (.calm 29 (.done))))) (.one 24 (.calm 27 (.calm 28 (.calm 29 (.done))))))))))))))))))))))))))) (.one 1 (.calm 5 (.calm 6 (.calm 7 (.calm 8 (.calm 9 (.calm 10 (.calm 11 (.calm 13 (.two 12 14 (.one 14 (.calm 15 (.calm 16 (.calm 17 (.calm 18 (.calm 19 (.calm 20 (.calm 21 (.calm 22 (.calm 23 (.calm 25 (.two 24 26 (.one 26 (.calm 27 (.calm 28 (.calm 29 (.done))))) (.one 24 (.calm 27 (.calm 28 (.calm 29 (.done))))))))))))))))) (.one 12 (.calm 15 (.calm 16 (.calm 17 (.calm 18 (.calm 19 (.calm 20 (.calm 21 (.calm 22 (.calm 23 (.calm 25 (.two 24 26 (.one 26 (.calm 27 (.calm 28 (.calm 29 (.done))))) (.one 24 (.calm 27 (.calm 28 (.calm 29 (.done))))))))))))))))))))))))))))))) mixed (by kernel_rfl) (by repeat (first | with_reducible exact Deaf.body | with_reducible apply Deaf.then | with_reducible apply Deaf.block)) ?_
          intro w8 hu8
          have hz8 := congrArg Array.size hu8.2.2.2
          replace hu8 := Upd.of_draw hu8
          have hs8 := hu8.size
          replace hU := hU.fresh hu8 (by first | exact (fun _ h => h.elim) | (intro k hk; simp only [At, New, Grow, From, No] at hk; omega))
          replace hr1 := hr1.upd hu8 (by first | (with_reducible assumption) | exact (fun h => h) | exact (fun _ _ _ h => h) | (simp only [At]; omega) | (intro k hk hl hS; simp only [At] at hS; subst hS; contradiction) | (intro k hk hl hS; simp only [At] at hS; subst hS; exact Grow.old (by omega) (by assumption) hk) | (intro k hk hl hS; (try simp only [At, From, No, Grow, New] at hk hS); omega))
          replace hr2 := hr2.upd hu8 (by first | (with_reducible assumption) | exact (fun h => h) | exact (fun _ _ _ h => h) | (simp only [At]; omega) | (intro k hk hl hS; simp only [At] at hS; subst hS; contradiction) | (intro k hk hl hS; simp only [At] at hS; subst hS; exact Grow.old (by omega) (by assumption) hk) | (intro k hk hl hS; (try simp only [At, From, No, Grow, New] at hk hS); omega))
          replace ho1 := ho1.upd hu8 (by first | (with_reducible assumption) | exact (fun h => h) | exact (fun _ _ _ h => h) | (simp only [At]; omega) | (intro k hk hl hS; simp only [At] at hS; subst hS; contradiction) | (intro k hk hl hS; simp only [At] at hS; subst hS; exact Grow.old (by omega) (by assumption) hk) | (intro k hk hl hS; (try simp only [At, From, No, Grow, New] at hk hS); omega))
          replace ho2 := ho2.upd hu8 (by first | (with_reducible assumption) | exact (fun h => h) | exact (fun _ _ _ h => h) | (simp only [At]; omega) | (intro k hk hl hS; simp only [At] at hS; subst hS; contradiction) | (intro k hk hl hS; simp only [At] at hS; subst hS; exact Grow.old (by omega) (by assumption) hk) | (intro k hk hl hS; (try simp only [At, From, No, Grow, New] at hk hS); omega))
          replace ho3 := ho3.upd hu8 (by first | (with_reducible assumption) | exact (fun h => h) | exact (fun _ _ _ h => h) | (simp only [At]; omega) | (intro k hk hl hS; simp only [At] at hS; subst hS; contradiction) | (intro k hk hl hS; simp only [At] at hS; subst hS; exact Grow.old (by omega) (by assumption) hk) | (intro k hk hl hS; (try simp only [At, From, No, Grow, New] at hk hS); omega))
          replace ho4 := ho4.upd hu8 (by first | (with_reducible assumption) | exact (fun h => h) | exact (fun _ _ _ h => h) | (simp only [At]; omega) | (intro k hk hl hS; simp only [At] at hS; subst hS; contradiction) | (intro k hk hl hS; simp only [At] at hS; subst hS; exact Grow.old (by omega) (by assumption) hk) | (intro k hk hl hS; (try simp only [At, From, No, Grow, New] at hk hS); omega))
          refine WN.calm _ rfl rfl rfl rfl rfl (fun _ => r_move rfl (ev_t rfl)) ?_
          refine WN.calm _ rfl rfl rfl rfl rfl (fun _ => r_move rfl (ev_t rfl)) ?_
          refine WN.fork _ _ rfl rfl ?_ ?_
          · refine SO.val rfl rfl rfl rfl (r_toStr rfl (ev_t rfl) (ho1.rd (by omega)) elem_37 int_5 str_9) ?_
            refine ⟨trivial, ?_⟩
            refine WN.step _ rfl (SO.call (refSeal_ok hr1 (by omega)) rfl body_33 ⟨(ev_t rfl), trivial⟩ rfl rfl rfl rfl ?_)
            rintro v w9 ⟨ho5, hu9⟩
            have hs9 := hu9.size
            replace hU := hU.fresh hu9 (by first | exact (fun _ h => h.elim) | (intro k hk; simp only [At, New, Grow, From, No] at hk; omega))
            replace hr1 := hr1.upd hu9 (by first | (with_reducible assumption) | exact (fun h => h) | exact (fun _ _ _ h => h) | (simp only [At]; omega) | (intro k hk hl hS; simp only [At] at hS; subst hS; contradiction) | (intro k hk hl hS; simp only [At] at hS; subst hS; exact Grow.old (by omega) (by assumption) hk) | (intro k hk hl hS; (try simp only [At, From, No, Grow, New] at hk hS); omega))
            replace hr2 := hr2.upd hu9 (by first | (with_reducible assumption) | exact (fun h => h) | exact (fun _ _ _ h => h) | (simp only [At]; omega) | (intro k hk hl hS; simp only [At] at hS; subst hS; contradiction) | (intro k hk hl hS; simp only [At] at hS; subst hS; exact Grow.old (by omega) (by assumption) hk) | (intro k hk hl hS; (try simp only [At, From, No, Grow, New] at hk hS); omega))
            replace ho1 := ho1.upd hu9 (by first | (with_reducible assumption) | exact (fun h => h) | exact (fun _ _ _ h => h) | (simp only [At]; omega) | (intro k hk hl hS; simp only [At] at hS; subst hS; contradiction) | (intro k hk hl hS; simp only [At] at hS; subst hS; exact Grow.old (by omega) (by assumption) hk) | (intro k hk hl hS; (try simp only [At, From, No, Grow, New] at hk hS); omega))
            replace ho2 := ho2.upd hu9 (by first | (with_reducible assumption) | exact (fun h => h) | exact (fun _ _ _ h => h) | (simp only [At]; omega) | (intro k hk hl hS; simp only [At] at hS; subst hS; contradiction) | (intro k hk hl hS; simp only [At] at hS; subst hS; exact Grow.old (by omega) (by assumption) hk) | (intro k hk hl hS; (try simp only [At, From, No, Grow, New] at hk hS); omega))
            replace ho3 := ho3.upd hu9 (by first | (with_reducible assumption) | exact (fun h => h) | exact (fun _ _ _ h => h) | (simp only [At]; omega) | (intro k hk hl hS; simp only [At] at hS; subst hS; contradiction) | (intro k hk hl hS; simp only [At] at hS; subst hS; exact Grow.old (by omega) (by assumption) hk) | (intro k hk hl hS; (try simp only [At, From, No, Grow, New] at hk hS); omega))
            replace ho4 := ho4.upd hu9 (by first | (with_reducible assumption) | exact (fun h => h) | exact (fun _ _ _ h => h) | (simp only [At]; omega) | (intro k hk hl hS; simp only [At] at hS; subst hS; contradiction) | (intro k hk hl hS; simp only [At] at hS; subst hS; exact Grow.old (by omega) (by assumption) hk) | (intro k hk hl hS; (try simp only [At, From, No, Grow, New] at hk hS); omega))
            obtain ⟨B5, k5, rfl, hk5⟩ := Own.form ho5
            refine ⟨trivial, ?_⟩
            refine WN.step _ rfl (SO.val rfl rfl rfl rfl (r_toStr rfl (ev_t rfl) (ho5.rd (by omega)) elem_37 int_5 str_9) ?_)
            refine ⟨trivial, ?_⟩
            refine WN.calm _ rfl rfl rfl rfl rfl (fun _ => r_eqlStr rfl (ev_t rfl) (ev_t rfl)) ?_
            refine WN.calm _ rfl rfl rfl rfl rfl (fun _ => r_move rfl (ev_t rfl)) ?_
            refine WN.cases 44 rfl (fun hb7_6 => ?_) (fun hb7_6 => ?_)
            · try (exfalso; first | (simp at hb7_6; done) | (simp only [decide_eq_true_eq, decide_eq_false_iff_not, Bool.not_eq_true', Bool.not_eq_false', Bool.not_eq_true, Bool.not_eq_false] at hb7_6; omega) | omega)
              all_goals
                try simp only [decide_eq_true_eq, decide_eq_false_iff_not, Bool.not_eq_true', Bool.not_eq_false', Bool.not_eq_true, Bool.not_eq_false, Option.isNone_none, Option.isNone_some, Option.isSome_none, Option.isSome_some, ne_eq, Decidable.not_not] at hb7_6
                refine WN.calm _ rfl rfl rfl rfl rfl (fun _ => r_move rfl (ev_t rfl)) ?_
                refine WN.calm _ rfl rfl rfl rfl rfl (fun _ => r_eql rfl (ev_t rfl) ev_c) ?_
                refine WN.calm _ rfl rfl rfl rfl rfl (fun _ => r_pickT rfl (ev_t rfl) (ev_t rfl)) ?_
                refine WN.calm _ rfl rfl rfl rfl rfl (fun _ => r_move rfl (ev_t rfl)) ?_
                refine WN.cases 48 rfl (fun hb7_10 => ?_) (fun hb7_10 => ?_)
                · try (exfalso; first | (simp at hb7_10; done) | (simp only [decide_eq_true_eq, decide_eq_false_iff_not, Bool.not_eq_true', Bool.not_eq_false', Bool.not_eq_true, Bool.not_eq_false] at hb7_10; omega) | omega)
                  all_goals
                    try simp only [decide_eq_true_eq, decide_eq_false_iff_not, Bool.not_eq_true', Bool.not_eq_false', Bool.not_eq_true, Bool.not_eq_false, Option.isNone_none, Option.isNone_some, Option.isSome_none, Option.isSome_some, ne_eq, Decidable.not_not] at hb7_10
                    refine WN.calm _ rfl rfl rfl rfl rfl (fun _ => r_move rfl (ev_t rfl)) ?_
                    refine WN.calm _ rfl rfl rfl rfl rfl (fun _ => r_move rfl (ev_t rfl)) ?_
                    refine WN.fork _ _ rfl rfl ?_ ?_
                    · refine SO.val rfl rfl rfl rfl (r_toStr rfl (ev_t rfl) (ho2.rd (by omega)) elem_37 int_5 str_9) ?_
                      refine ⟨trivial, ?_⟩
                      refine WN.step _ rfl (SO.val rfl rfl rfl rfl (r_toStr rfl (ev_t rfl) hr1 elem_37 int_5 str_9) ?_)
                      refine ⟨trivial, ?_⟩
                      refine WN.calm _ rfl rfl rfl rfl rfl (fun _ => r_eqlStr rfl (ev_t rfl) (ev_t rfl)) ?_
                      refine WN.calm _ rfl rfl rfl rfl rfl (fun _ => r_pickT rfl (ev_t rfl) (ev_t rfl)) ?_
                      refine WN.calm _ rfl rfl rfl rfl rfl (fun _ => r_move rfl (ev_t rfl)) ?_
                      refine WN.cases 55 rfl (fun hb7_17 => ?_) (fun hb7_17 => ?_)
                      · try (exfalso; first | (simp at hb7_17; done) | (simp only [decide_eq_true_eq, decide_eq_false_iff_not, Bool.not_eq_true', Bool.not_eq_false', Bool.not_eq_true, Bool.not_eq_false] at hb7_17; omega) | omega)
                        all_goals
                          try simp only [decide_eq_true_eq, decide_eq_false_iff_not, Bool.not_eq_true', Bool.not_eq_false', Bool.not_eq_true, Bool.not_eq_false, Option.isNone_none, Option.isNone_some, Option.isSome_none, Option.isSome_some, ne_eq, Decidable.not_not] at hb7_17
                          refine WN.calm _ rfl rfl rfl rfl rfl (fun _ => r_move rfl (ev_t rfl)) ?_
                          refine WN.calm _ rfl rfl rfl rfl rfl (fun _ => r_move rfl (ev_t rfl)) ?_
                          refine WN.calm _ rfl rfl rfl rfl rfl (fun _ => r_eql rfl (ev_t rfl) (ev_t rfl)) ?_
                          refine WN.calm _ rfl rfl rfl rfl rfl (fun _ => r_pickT rfl (ev_t rfl) (ev_t rfl)) ?_
                          refine WN.calm _ rfl rfl rfl rfl rfl (fun _ => r_move rfl (ev_t rfl)) ?_
                          refine WN.cases 60 rfl (fun hb7_22 => ?_) (fun hb7_22 => ?_)
                          · try (exfalso; first | (simp at hb7_22; done) | (simp only [decide_eq_true_eq, decide_eq_false_iff_not, Bool.not_eq_true', Bool.not_eq_false', Bool.not_eq_true, Bool.not_eq_false] at hb7_22; omega) | omega)
                            all_goals
                              try simp only [decide_eq_true_eq, decide_eq_false_iff_not, Bool.not_eq_true', Bool.not_eq_false', Bool.not_eq_true, Bool.not_eq_false, Option.isNone_none, Option.isNone_some, Option.isSome_none, Option.isSome_some, ne_eq, Decidable.not_not] at hb7_22
                              refine WN.calm _ rfl rfl rfl rfl rfl (fun _ => r_move rfl (ev_t rfl)) ?_
                              refine WN.calm _ rfl rfl rfl rfl rfl (fun _ => r_move rfl (ev_t rfl)) ?_
                              refine WN.fork _ _ rfl rfl ?_ ?_
                              · refine SO.val rfl rfl rfl rfl (r_toStr rfl (ev_t rfl) (ho3.rd (by omega)) elem_37 int_5 str_9) ?_
                                refine ⟨trivial, ?_⟩
                                refine WN.step _ rfl (SO.val rfl rfl rfl rfl (r_toStr rfl (ev_t rfl) ho4 elem_37 int_5 str_9) ?_)
                                refine ⟨trivial, ?_⟩
                                refine WN.calm _ rfl rfl rfl rfl rfl (fun _ => r_eqlStr rfl (ev_t rfl) (ev_t rfl)) ?_
                                refine WN.calm _ rfl rfl rfl rfl rfl (fun _ => r_pickT rfl (ev_t rfl) (ev_t rfl)) ?_
                                refine WN.calm _ rfl rfl rfl rfl rfl (fun _ => r_assign rfl (ev_t rfl)) ?_
                                refine WN.done ?_
                                refine WX.keep [(4, _)] ⟨rfl, trivial⟩ ?_
                                refine WX.next ?_
                                refine WC.ret ?_
                                refine WX.retE1 rfl rfl ?_
                                exact ⟨by simp, hU⟩
                              · refine SO.val rfl rfl rfl rfl (r_toStr rfl (ev_t rfl) ho4 elem_37 int_5 str_9) ?_
                                refine ⟨trivial, ?_⟩
                                refine WN.step _ rfl (SO.val rfl rfl rfl rfl (r_toStr rfl (ev_t rfl) (ho3.rd (by omega)) elem_37 int_5 str_9) ?_)
                                refine ⟨trivial, ?_⟩
                                refine WN.calm _ rfl rfl rfl rfl rfl (fun _ => r_eqlStr rfl (ev_t rfl) (ev_t rfl)) ?_
                                refine WN.calm _ rfl rfl rfl rfl rfl (fun _ => r_pickT rfl (ev_t rfl) (ev_t rfl)) ?_
                                refine WN.calm _ rfl rfl rfl rfl rfl (fun _ => r_assign rfl (ev_t rfl)) ?_
                                refine WN.done ?_
                                refine WX.keep [(4, _)] ⟨rfl, trivial⟩ ?_
                                refine WX.next ?_
                                refine WC.ret ?_
                                refine WX.retE1 rfl rfl ?_
                                exact ⟨by simp, hU⟩
                          · try (exfalso; first | (simp at hb7_22; done) | (simp only [decide_eq_true_eq, decide_eq_false_iff_not, Bool.not_eq_true', Bool.not_eq_false', Bool.not_eq_true, Bool.not_eq_false] at hb7_22; omega) | omega)
                            all_goals
                              try simp only [decide_eq_true_eq, decide_eq_false_iff_not, Bool.not_eq_true', Bool.not_eq_false', Bool.not_eq_true, Bool.not_eq_false, Option.isNone_none, Option.isNone_some, Option.isSome_none, Option.isSome_some, ne_eq, Decidable.not_not] at hb7_22
                              refine WN.skip _ rfl rfl rfl rfl ?_
                              refine WN.skip _ rfl rfl rfl rfl ?_
                              refine WN.fork _ _ rfl rfl ?_ ?_
                              · refine SO.val rfl rfl rfl rfl (r_toStr rfl (ev_t rfl) (ho3.rd (by omega)) elem_37 int_5 str_9) ?_
                                refine ⟨trivial, ?_⟩
                                refine WN.step _ rfl (SO.skip rfl rfl rfl ?_)
                                refine ⟨trivial, ?_⟩
                                refine WN.skip _ rfl rfl rfl rfl ?_
                                refine WN.calm _ rfl rfl rfl rfl rfl (fun _ => r_pickF rfl (ev_t rfl) ev_c) ?_
                                refine WN.calm _ rfl rfl rfl rfl rfl (fun _ => r_assign rfl (ev_t rfl)) ?_
                                refine WN.done ?_
                                refine WX.keep [(4, _)] ⟨rfl, trivial⟩ ?_
                                refine WX.next ?_
                                refine WC.ret ?_
                                refine WX.retE1 rfl rfl ?_
                                exact ⟨by simp, hU⟩
                              · refine SO.val rfl rfl rfl rfl (r_toStr rfl (ev_t rfl) ho4 elem_37 int_5 str_9) ?_
                                refine ⟨trivial, ?_⟩
                                refine WN.step _ rfl (SO.skip rfl rfl rfl ?_)
                                refine ⟨trivial, ?_⟩
                                refine WN.skip _ rfl rfl rfl rfl ?_
                                refine WN.calm _ rfl rfl rfl rfl rfl (fun _ => r_pickF rfl (ev_t rfl) ev_c) ?_
                                refine WN.calm _ rfl rfl rfl rfl rfl (fun _ => r_assign rfl (ev_t rfl)) ?_
                                refine WN.done ?_
                                refine WX.keep [(4, _)] ⟨rfl, trivial⟩ ?_
                                refine WX.next ?_
                                refine WC.ret ?_
                                refine WX.retE1 rfl rfl ?_
                                exact ⟨by simp, hU⟩
                      · try (exfalso; first | (simp at hb7_17; done) | (simp only [decide_eq_true_eq, decide_eq_false_iff_not, Bool.not_eq_true', Bool.not_eq_false', Bool.not_eq_true, Bool.not_eq_false] at hb7_17; omega) | omega)
                        all_goals
                          try simp only [decide_eq_true_eq, decide_eq_false_iff_not, Bool.not_eq_true', Bool.not_eq_false', Bool.not_eq_true, Bool.not_eq_false, Option.isNone_none, Option.isNone_some, Option.isSome_none, Option.isSome_some, ne_eq, Decidable.not_not] at hb7_17
                          refine WN.skip _ rfl rfl rfl rfl ?_
                          refine WN.skip _ rfl rfl rfl rfl ?_
                          refine WN.skip _ rfl rfl rfl rfl ?_
                          refine WN.calm _ rfl rfl rfl rfl rfl (fun _ => r_pickF rfl (ev_t rfl) ev_c) ?_
                          refine WN.calm _ rfl rfl rfl rfl rfl (fun _ => r_move rfl (ev_t rfl)) ?_
                          refine WN.skip _ rfl rfl rfl rfl ?_
                          refine WN.skip _ rfl rfl rfl rfl ?_
                          refine WN.fork _ _ rfl rfl ?_ ?_
                          · refine SO.val rfl rfl rfl rfl (r_toStr rfl (ev_t rfl) (ho3.rd (by omega)) elem_37 int_5 str_9) ?_
                            refine ⟨trivial, ?_⟩
                            refine WN.step _ rfl (SO.skip rfl rfl rfl ?_)
                            refine ⟨trivial, ?_⟩
                            refine WN.skip _ rfl rfl rfl rfl ?_
                            refine WN.calm _ rfl rfl rfl rfl rfl (fun _ => r_pickF rfl (ev_t rfl) ev_c) ?_
                            refine WN.calm _ rfl rfl rfl rfl rfl (fun _ => r_assign rfl (ev_t rfl)) ?_
                            refine WN.done ?_
                            refine WX.keep [(4, _)] ⟨rfl, trivial⟩ ?_
                            refine WX.next ?_
                            refine WC.ret ?_
                            refine WX.retE1 rfl rfl ?_
                            exact ⟨by simp, hU⟩
                          · refine SO.val rfl rfl rfl rfl (r_toStr rfl (ev_t rfl) ho4 elem_37 int_5 str_9) ?_
                            refine ⟨trivial, ?_⟩
                            refine WN.step _ rfl (SO.skip rfl rfl rfl ?_)
                            refine ⟨trivial, ?_⟩
                            refine WN.skip _ rfl rfl rfl rfl ?_
                            refine WN.calm _ rfl rfl rfl rfl rfl (fun _ => r_pickF rfl (ev_t rfl) ev_c) ?_
                            refine WN.calm _ rfl rfl rfl rfl rfl (fun _ => r_assign rfl (ev_t rfl)) ?_
                            refine WN.done ?_
                            refine WX.keep [(4, _)] ⟨rfl, trivial⟩ ?_
                            refine WX.next ?_
                            refine WC.ret ?_
                            refine WX.retE1 rfl rfl ?_
                            exact ⟨by simp, hU⟩
                    · refine SO.val rfl rfl rfl rfl (r_toStr rfl (ev_t rfl) hr1 elem_37 int_5 str_9) ?_
                      refine ⟨trivial, ?_⟩
                      refine WN.step _ rfl (SO.val rfl rfl rfl rfl (r_toStr rfl (ev_t rfl) (ho2.rd (by omega)) elem_37 int_5 str_9) ?_)
                      refine ⟨trivial, ?_⟩
                      refine WN.calm _ rfl rfl rfl rfl rfl (fun _ => r_eqlStr rfl (ev_t rfl) (ev_t rfl)) ?_
                      refine WN.calm _ rfl rfl rfl rfl rfl (fun _ => r_pickT rfl (ev_t rfl) (ev_t rfl)) ?_
                      refine WN.calm _ rfl rfl rfl rfl rfl (fun _ => r_move rfl (ev_t rfl)) ?_
                      refine WN.cases 55 rfl (fun hb7_17 => ?_) (fun hb7_17 => ?_)
                      · try (exfalso; first | (simp at hb7_17; done) | (simp only [decide_eq_true_eq, decide_eq_false_iff_not, Bool.not_eq_true', Bool.not_eq_false', Bool.not_eq_true, Bool.not_eq_false] at hb7_17; omega) | omega)
                        all_goals
                          try simp only [decide_eq_true_eq, decide_eq_false_iff_not, Bool.not_eq_true', Bool.not_eq_false', Bool.not_eq_true, Bool.not_eq_false, Option.isNone_none, Option.isNone_some, Option.isSome_none, Option.isSome_some, ne_eq, Decidable.not_not] at hb7_17
                          refine WN.calm _ rfl rfl rfl rfl rfl (fun _ => r_move rfl (ev_t rfl)) ?_
                          refine WN.calm _ rfl rfl rfl rfl rfl (fun _ => r_move rfl (ev_t rfl)) ?_
                          refine WN.calm _ rfl rfl rfl rfl rfl (fun _ => r_eql rfl (ev_t rfl) (ev_t rfl)) ?_
                          refine WN.calm _ rfl rfl rfl rfl rfl (fun _ => r_pickT rfl (ev_t rfl) (ev_t rfl)) ?_
                          refine WN.calm _ rfl rfl rfl rfl rfl (fun _ => r_move rfl (ev_t rfl)) ?_
                          refine WN.cases 60 rfl (fun hb7_22 => ?_) (fun hb7_22 => ?_)
                          · try (exfalso; first | (simp at hb7_22; done) | (simp only [decide_eq_true_eq, decide_eq_false_iff_not, Bool.not_eq_true', Bool.not_eq_false', Bool.not_eq_true, Bool.not_eq_false] at hb7_22; omega) | omega)
                            all_goals
                              try simp only [decide_eq_true_eq, decide_eq_false_iff_not, Bool.not_eq_true', Bool.not_eq_false', Bool.not_eq_true, Bool.not_eq_false, Option.isNone_none, Option.isNone_some, Option.isSome_none, Option.isSome_some, ne_eq, Decidable.not_not] at hb7_22
                              refine WN.calm _ rfl rfl rfl rfl rfl (fun _ => r_move rfl (ev_t rfl)) ?_
                              refine WN.calm _ rfl rfl rfl rfl rfl (fun _ => r_move rfl (ev_t rfl)) ?_
                              refine WN.fork _ _ rfl rfl ?_ ?_
                              · refine SO.val rfl rfl rfl rfl (r_toStr rfl (ev_t rfl) (ho3.rd (by omega)) elem_37 int_5 str_9) ?_
                                refine ⟨trivial, ?_⟩
                                refine WN.step _ rfl (SO.val rfl rfl rfl rfl (r_toStr rfl (ev_t rfl) ho4 elem_37 int_5 str_9) ?_)
                                refine ⟨trivial, ?_⟩
                                refine WN.calm _ rfl rfl rfl rfl rfl (fun _ => r_eqlStr rfl (ev_t rfl) (ev_t rfl)) ?_
                                refine WN.calm _ rfl rfl rfl rfl rfl (fun _ => r_pickT rfl (ev_t rfl) (ev_t rfl)) ?_
                                refine WN.calm _ rfl rfl rfl rfl rfl (fun _ => r_assign rfl (ev_t rfl)) ?_
                                refine WN.done ?_
                                refine WX.keep [(4, _)] ⟨rfl, trivial⟩ ?_
                                refine WX.next ?_
                                refine WC.ret ?_
                                refine WX.retE1 rfl rfl ?_
                                exact ⟨by simp, hU⟩
                              · refine SO.val rfl rfl rfl rfl (r_toStr rfl (ev_t rfl) ho4 elem_37 int_5 str_9) ?_
                                refine ⟨trivial, ?_⟩
                                refine WN.step _ rfl (SO.val rfl rfl rfl rfl (r_toStr rfl (ev_t rfl) (ho3.rd (by omega)) elem_37 int_5 str_9) ?_)
                                refine ⟨trivial, ?_⟩
                                refine WN.calm _ rfl rfl rfl rfl rfl (fun _ => r_eqlStr rfl (ev_t rfl) (ev_t rfl)) ?_
                                refine WN.calm _ rfl rfl rfl rfl rfl (fun _ => r_pickT rfl (ev_t rfl) (ev_t rfl)) ?_
                                refine WN.calm _ rfl rfl rfl rfl rfl (fun _ => r_assign rfl (ev_t rfl)) ?_
                                refine WN.done ?_
                                refine WX.keep [(4, _)] ⟨rfl, trivial⟩ ?_
                                refine WX.next ?_
                                refine WC.ret ?_
                                refine WX.retE1 rfl rfl ?_
                                exact ⟨by simp, hU⟩
                          · try (exfalso; first | (simp at hb7_22; done) | (simp only [decide_eq_true_eq, decide_eq_false_iff_not, Bool.not_eq_true', Bool.not_eq_false', Bool.not_eq_true, Bool.not_eq_false] at hb7_22; omega) | omega)
                            all_goals
                              try simp only [decide_eq_true_eq, decide_eq_false_iff_not, Bool.not_eq_true', Bool.not_eq_false', Bool.not_eq_true, Bool.not_eq_false, Option.isNone_none, Option.isNone_some, Option.isSome_none, Option.isSome_some, ne_eq, Decidable.not_not] at hb7_22
                              refine WN.skip _ rfl rfl rfl rfl ?_
                              refine WN.skip _ rfl rfl rfl rfl ?_
                              refine WN.fork _ _ rfl rfl ?_ ?_
                              · refine SO.val rfl rfl rfl rfl (r_toStr rfl (ev_t rfl) (ho3.rd (by omega)) elem_37 int_5 str_9) ?_
                                refine ⟨trivial, ?_⟩
                                refine WN.step _ rfl (SO.skip rfl rfl rfl ?_)
                                refine ⟨trivial, ?_⟩
                                refine WN.skip _ rfl rfl rfl rfl ?_
                                refine WN.calm _ rfl rfl rfl rfl rfl (fun _ => r_pickF rfl (ev_t rfl) ev_c) ?_
                                refine WN.calm _ rfl rfl rfl rfl rfl (fun _ => r_assign rfl (ev_t rfl)) ?_
                                refine WN.done ?_
                                refine WX.keep [(4, _)] ⟨rfl, trivial⟩ ?_
                                refine WX.next ?_
                                refine WC.ret ?_
                                refine WX.retE1 rfl rfl ?_
                                exact ⟨by simp, hU⟩
                              · refine SO.val rfl rfl rfl rfl (r_toStr rfl (ev_t rfl) ho4 elem_37 int_5 str_9) ?_
                                refine ⟨trivial, ?_⟩
                                refine WN.step _ rfl (SO.skip rfl rfl rfl ?_)
                                refine ⟨trivial, ?_⟩
                                refine WN.skip _ rfl rfl rfl rfl ?_
                                refine WN.calm _ rfl rfl rfl rfl rfl (fun _ => r_pickF rfl (ev_t rfl) ev_c) ?_
                                refine WN.calm _ rfl rfl rfl rfl rfl (fun _ => r_assign rfl (ev_t rfl)) ?_
                                refine WN.done ?_
                                refine WX.keep [(4, _)] ⟨rfl, trivial⟩ ?_
                                refine WX.next ?_
                                refine WC.ret ?_
                                refine WX.retE1 rfl rfl ?_
                                exact ⟨by simp, hU⟩
                      · try (exfalso; first | (simp at hb7_17; done) | (simp only [decide_eq_true_eq, decide_eq_false_iff_not, Bool.not_eq_true', Bool.not_eq_false', Bool.not_eq_true, Bool.not_eq_false] at hb7_17; omega) | omega)
                        all_goals
                          try simp only [decide_eq_true_eq, decide_eq_false_iff_not, Bool.not_eq_true', Bool.not_eq_false', Bool.not_eq_true, Bool.not_eq_false, Option.isNone_none, Option.isNone_some, Option.isSome_none, Option.isSome_some, ne_eq, Decidable.not_not] at hb7_17
                          refine WN.skip _ rfl rfl rfl rfl ?_
                          refine WN.skip _ rfl rfl rfl rfl ?_
                          refine WN.skip _ rfl rfl rfl rfl ?_
                          refine WN.calm _ rfl rfl rfl rfl rfl (fun _ => r_pickF rfl (ev_t rfl) ev_c) ?_
                          refine WN.calm _ rfl rfl rfl rfl rfl (fun _ => r_move rfl (ev_t rfl)) ?_
                          refine WN.skip _ rfl rfl rfl rfl ?_
                          refine WN.skip _ rfl rfl rfl rfl ?_
                          refine WN.fork _ _ rfl rfl ?_ ?_
                          · refine SO.val rfl rfl rfl rfl (r_toStr rfl (ev_t rfl) (ho3.rd (by omega)) elem_37 int_5 str_9) ?_
                            refine ⟨trivial, ?_⟩
                            refine WN.step _ rfl (SO.skip rfl rfl rfl ?_)
                            refine ⟨trivial, ?_⟩
                            refine WN.skip _ rfl rfl rfl rfl ?_
                            refine WN.calm _ rfl rfl rfl rfl rfl (fun _ => r_pickF rfl (ev_t rfl) ev_c) ?_
                            refine WN.calm _ rfl rfl rfl rfl rfl (fun _ => r_assign rfl (ev_t rfl)) ?_
                            refine WN.done ?_
                            refine WX.keep [(4, _)] ⟨rfl, trivial⟩ ?_
                            refine WX.next ?_
                            refine WC.ret ?_
                            refine WX.retE1 rfl rfl ?_
                            exact ⟨by simp, hU⟩
                          · refine SO.val rfl rfl rfl rfl (r_toStr rfl (ev_t rfl) ho4 elem_37 int_5 str_9) ?_
                            refine ⟨trivial, ?_⟩
                            refine WN.step _ rfl (SO.skip rfl rfl rfl ?_)
                            refine ⟨trivial, ?_⟩
                            refine WN.skip _ rfl rfl rfl rfl ?_
                            refine WN.calm _ rfl rfl rfl rfl rfl (fun _ => r_pickF rfl (ev_t rfl) ev_c) ?_
                            refine WN.calm _ rfl rfl rfl rfl rfl (fun _ => r_assign rfl (ev_t rfl)) ?_
                            refine WN.done ?_
                            refine WX.keep [(4, _)] ⟨rfl, trivial⟩ ?_
                            refine WX.next ?_
                            refine WC.ret ?_
                            refine WX.retE1 rfl rfl ?_
                            exact ⟨by simp, hU⟩
                · try (exfalso; first | (simp at hb7_10; done) | (simp only [decide_eq_true_eq, decide_eq_false_iff_not, Bool.not_eq_true', Bool.not_eq_false', Bool.not_eq_true, Bool.not_eq_false] at hb7_10; omega) | omega)
                  all_goals
                    try simp only [decide_eq_true_eq, decide_eq_false_iff_not, Bool.not_eq_true', Bool.not_eq_false', Bool.not_eq_true, Bool.not_eq_false, Option.isNone_none, Option.isNone_some, Option.isSome_none, Option.isSome_some, ne_eq, Decidable.not_not] at hb7_10
                    refine WN.skip _ rfl rfl rfl rfl ?_
                    refine WN.skip _ rfl rfl rfl rfl ?_
                    refine WN.fork _ _ rfl rfl ?_ ?_
                    · refine SO.val rfl rfl rfl rfl (r_toStr rfl (ev_t rfl) (ho2.rd (by omega)) elem_37 int_5 str_9) ?_
                      refine ⟨trivial, ?_⟩
                      refine WN.step _ rfl (SO.skip rfl rfl rfl ?_)
                      refine ⟨trivial, ?_⟩
                      refine WN.skip _ rfl rfl rfl rfl ?_
                      refine WN.calm _ rfl rfl rfl rfl rfl (fun _ => r_pickF rfl (ev_t rfl) ev_c) ?_
                      refine WN.calm _ rfl rfl rfl rfl rfl (fun _ => r_move rfl (ev_t rfl)) ?_
                      refine WN.skip _ rfl rfl rfl rfl ?_
                      refine WN.skip _ rfl rfl rfl rfl ?_
                      refine WN.skip _ rfl rfl rfl rfl ?_
                      refine WN.calm _ rfl rfl rfl rfl rfl (fun _ => r_pickF rfl (ev_t rfl) ev_c) ?_
                      refine WN.calm _ rfl rfl rfl rfl rfl (fun _ => r_move rfl (ev_t rfl)) ?_
                      refine WN.skip _ rfl rfl rfl rfl ?_
                      refine WN.skip _ rfl rfl rfl rfl ?_
                      refine WN.fork _ _ rfl rfl ?_ ?_
                      · refine SO.val rfl rfl rfl rfl (r_toStr rfl (ev_t rfl) (ho3.rd (by omega)) elem_37 int_5 str_9) ?_
                        refine ⟨trivial, ?_⟩
                        refine WN.step _ rfl (SO.skip rfl rfl rfl ?_)
                        refine ⟨trivial, ?_⟩
                        refine WN.skip _ rfl rfl rfl rfl ?_
                        refine WN.calm _ rfl rfl rfl rfl rfl (fun _ => r_pickF rfl (ev_t rfl) ev_c) ?_
                        refine WN.calm _ rfl rfl rfl rfl rfl (fun _ => r_assign rfl (ev_t rfl)) ?_
                        refine WN.done ?_
                        refine WX.keep [(4, _)] ⟨rfl, trivial⟩ ?_
                        refine WX.next ?_
                        refine WC.ret ?_
                        refine WX.retE1 rfl rfl ?_
                        exact ⟨by simp, hU⟩
                      · refine SO.val rfl rfl rfl rfl (r_toStr rfl (ev_t rfl) ho4 elem_37 int_5 str_9) ?_
                        refine ⟨trivial, ?_⟩
                        refine WN.step _ rfl (SO.skip rfl rfl rfl ?_)
                        refine ⟨trivial, ?_⟩
                        refine WN.skip _ rfl rfl rfl rfl ?_
                        refine WN.calm _ rfl rfl rfl rfl rfl (fun _ => r_pickF rfl (ev_t rfl) ev_c) ?_
                        refine WN.calm _ rfl rfl rfl rfl rfl (fun _ => r_assign rfl (ev_t rfl)) ?_
                        refine WN.done ?_
                        refine WX.keep [(4, _)] ⟨rfl, trivial⟩ ?_
                        refine WX.next ?_
                        refine WC.ret ?_
                        refine WX.retE1 rfl rfl ?_
                        exact ⟨by simp, hU⟩
                    · refine SO.val rfl rfl rfl rfl (r_toStr rfl (ev_t rfl) hr1 elem_37 int_5 str_9) ?_
                      refine ⟨trivial, ?_⟩
                      refine WN.step _ rfl (SO.skip rfl rfl rfl ?_)
                      refine ⟨trivial, ?_⟩
                      refine WN.skip _ rfl rfl rfl rfl ?_
                      refine WN.calm _ rfl rfl rfl rfl rfl (fun _ => r_pickF rfl (ev_t rfl) ev_c) ?_
                      refine WN.calm _ rfl rfl rfl rfl rfl (fun _ => r_move rfl (ev_t rfl)) ?_
                      refine WN.skip _ rfl rfl rfl rfl ?_
                      refine WN.skip _ rfl rfl rfl rfl ?_
                      refine WN.skip _ rfl rfl rfl rfl ?_
                      refine WN.calm _ rfl rfl rfl rfl rfl (fun _ => r_pickF rfl (ev_t rfl) ev_c) ?_
                      refine WN.calm _ rfl rfl rfl rfl rfl (fun _ => r_move rfl (ev_t rfl)) ?_
                      refine WN.skip _ rfl rfl rfl rfl ?_
                      refine WN.skip _ rfl rfl rfl rfl ?_
                      refine WN.fork _ _ rfl rfl ?_ ?_
                      · refine SO.val rfl rfl rfl rfl (r_toStr rfl (ev_t rfl) (ho3.rd (by omega)) elem_37 int_5 str_9) ?_
                        refine ⟨trivial, ?_⟩
                        refine WN.step _ rfl (SO.skip rfl rfl rfl ?_)
                        refine ⟨trivial, ?_⟩
                        refine WN.skip _ rfl rfl rfl rfl ?_
                        refine WN.calm _ rfl rfl rfl rfl rfl (fun _ => r_pickF rfl (ev_t rfl) ev_c) ?_
                        refine WN.calm _ rfl rfl rfl rfl rfl (fun _ => r_assign rfl (ev_t rfl)) ?_
                        refine WN.done ?_
                        refine WX.keep [(4, _)] ⟨rfl, trivial⟩ ?_
                        refine WX.next ?_
                        refine WC.ret ?_
                        refine WX.retE1 rfl rfl ?_
                        exact ⟨by simp, hU⟩
                      · refine SO.val rfl rfl rfl rfl (r_toStr rfl (ev_t rfl) ho4 elem_37 int_5 str_9) ?_
                        refine ⟨trivial, ?_⟩
                        refine WN.step _ rfl (SO.skip rfl rfl rfl ?_)
                        refine ⟨trivial, ?_⟩
                        refine WN.skip _ rfl rfl rfl rfl ?_
                        refine WN.calm _ rfl rfl rfl rfl rfl (fun _ => r_pickF rfl (ev_t rfl) ev_c) ?_
                        refine WN.calm _ rfl rfl rfl rfl rfl (fun _ => r_assign rfl (ev_t rfl)) ?_
                        refine WN.done ?_
                        refine WX.keep [(4, _)] ⟨rfl, trivial⟩ ?_
                        refine WX.next ?_
                        refine WC.ret ?_
                        refine WX.retE1 rfl rfl ?_
                        exact ⟨by simp, hU⟩
            · try (exfalso; first | (simp at hb7_6; done) | (simp only [decide_eq_true_eq, decide_eq_false_iff_not, Bool.not_eq_true', Bool.not_eq_false', Bool.not_eq_true, Bool.not_eq_false] at hb7_6; omega) | omega)
              all_goals
                try simp only [decide_eq_true_eq, decide_eq_false_iff_not, Bool.not_eq_true', Bool.not_eq_false', Bool.not_eq_true, Bool.not_eq_false, Option.isNone_none, Option.isNone_some, Option.isSome_none, Option.isSome_some, ne_eq, Decidable.not_not] at hb7_6
                refine WN.skip _ rfl rfl rfl rfl ?_
                refine WN.skip _ rfl rfl rfl rfl ?_
                refine WN.calm _ rfl rfl rfl rfl rfl (fun _ => r_pickF rfl (ev_t rfl) ev_c) ?_
                refine WN.calm _ rfl rfl rfl rfl rfl (fun _ => r_move rfl (ev_t rfl)) ?_
                refine WN.skip _ rfl rfl rfl rfl ?_
                refine WN.skip _ rfl rfl rfl rfl ?_
                refine WN.fork _ _ rfl rfl ?_ ?_
                · refine SO.val rfl rfl rfl rfl (r_toStr rfl (ev_t rfl) (ho2.rd (by omega)) elem_37 int_5 str_9) ?_
                  refine ⟨trivial, ?_⟩
                  refine WN.step _ rfl (SO.skip rfl rfl rfl ?_)
                  refine ⟨trivial, ?_⟩
                  refine WN.skip _ rfl rfl rfl rfl ?_
                  refine WN.calm _ rfl rfl rfl rfl rfl (fun _ => r_pickF rfl (ev_t rfl) ev_c) ?_
                  refine WN.calm _ rfl rfl rfl rfl rfl (fun _ => r_move rfl (ev_t rfl)) ?_
                  refine WN.skip _ rfl rfl rfl rfl ?_
                  refine WN.skip _ rfl rfl rfl rfl ?_
                  refine WN.skip _ rfl rfl rfl rfl ?_
                  refine WN.calm _ rfl rfl rfl rfl rfl (fun _ => r_pickF rfl (ev_t rfl) ev_c) ?_
                  refine WN.calm _ rfl rfl rfl rfl rfl (fun _ => r_move rfl (ev_t rfl)) ?_
                  refine WN.skip _ rfl rfl rfl rfl ?_
                  refine WN.skip _ rfl rfl rfl rfl ?_
                  refine WN.fork _ _ rfl rfl ?_ ?_
                  · refine SO.val rfl rfl rfl rfl (r_toStr rfl (ev_t rfl) (ho3.rd (by omega)) elem_37 int_5 str_9) ?_
                    refine ⟨trivial, ?_⟩
                    refine WN.step _ rfl (SO.skip rfl rfl rfl ?_)
                    refine ⟨trivial, ?_⟩
                    refine WN.skip _ rfl rfl rfl rfl ?_
                    refine WN.calm _ rfl rfl rfl rfl rfl (fun _ => r_pickF rfl (ev_t rfl) ev_c) ?_
                    refine WN.calm _ rfl rfl rfl rfl rfl (fun _ => r_assign rfl (ev_t rfl)) ?_
                    refine WN.done ?_
                    refine WX.keep [(4, _)] ⟨rfl, trivial⟩ ?_
                    refine WX.next ?_
                    refine WC.ret ?_
                    refine WX.retE1 rfl rfl ?_
                    exact ⟨by simp, hU⟩
                  · refine SO.val rfl rfl rfl rfl (r_toStr rfl (ev_t rfl) ho4 elem_37 int_5 str_9) ?_
                    refine ⟨trivial, ?_⟩
                    refine WN.step _ rfl (SO.skip rfl rfl rfl ?_)
                    refine ⟨trivial, ?_⟩
                    refine WN.skip _ rfl rfl rfl rfl ?_
                    refine WN.calm _ rfl rfl rfl rfl rfl (fun _ => r_pickF rfl (ev_t rfl) ev_c) ?_
                    refine WN.calm _ rfl rfl rfl rfl rfl (fun _ => r_assign rfl (ev_t rfl)) ?_
                    refine WN.done ?_
                    refine WX.keep [(4, _)] ⟨rfl, trivial⟩ ?_
                    refine WX.next ?_
                    refine WC.ret ?_
                    refine WX.retE1 rfl rfl ?_
                    exact ⟨by simp, hU⟩
                · refine SO.val rfl rfl rfl rfl (r_toStr rfl (ev_t rfl) hr1 elem_37 int_5 str_9) ?_
                  refine ⟨trivial, ?_⟩
                  refine WN.step _ rfl (SO.skip rfl rfl rfl ?_)
                  refine ⟨trivial, ?_⟩
                  refine WN.skip _ rfl rfl rfl rfl ?_
                  refine WN.calm _ rfl rfl rfl rfl rfl (fun _ => r_pickF rfl (ev_t rfl) ev_c) ?_
                  refine WN.calm _ rfl rfl rfl rfl rfl (fun _ => r_move rfl (ev_t rfl)) ?_
                  refine WN.skip _ rfl rfl rfl rfl ?_
                  refine WN.skip _ rfl rfl rfl rfl ?_
                  refine WN.skip _ rfl rfl rfl rfl ?_
                  refine WN.calm _ rfl rfl rfl rfl rfl (fun _ => r_pickF rfl (ev_t rfl) ev_c) ?_
                  refine WN.calm _ rfl rfl rfl rfl rfl (fun _ => r_move rfl (ev_t rfl)) ?_
                  refine WN.skip _ rfl rfl rfl rfl ?_
                  refine WN.skip _ rfl rfl rfl rfl ?_
                  refine WN.fork _ _ rfl rfl ?_ ?_
                  · refine SO.val rfl rfl rfl rfl (r_toStr rfl (ev_t rfl) (ho3.rd (by omega)) elem_37 int_5 str_9) ?_
                    refine ⟨trivial, ?_⟩
                    refine WN.step _ rfl (SO.skip rfl rfl rfl ?_)
                    refine ⟨trivial, ?_⟩
                    refine WN.skip _ rfl rfl rfl rfl ?_
                    refine WN.calm _ rfl rfl rfl rfl rfl (fun _ => r_pickF rfl (ev_t rfl) ev_c) ?_
                    refine WN.calm _ rfl rfl rfl rfl rfl (fun _ => r_assign rfl (ev_t rfl)) ?_
                    refine WN.done ?_
                    refine WX.keep [(4, _)] ⟨rfl, trivial⟩ ?_
                    refine WX.next ?_
                    refine WC.ret ?_
                    refine WX.retE1 rfl rfl ?_
                    exact ⟨by simp, hU⟩
                  · refine SO.val rfl rfl rfl rfl (r_toStr rfl (ev_t rfl) ho4 elem_37 int_5 str_9) ?_
                    refine ⟨trivial, ?_⟩
                    refine WN.step _ rfl (SO.skip rfl rfl rfl ?_)
                    refine ⟨trivial, ?_⟩
                    refine WN.skip _ rfl rfl rfl rfl ?_
                    refine WN.calm _ rfl rfl rfl rfl rfl (fun _ => r_pickF rfl (ev_t rfl) ev_c) ?_
                    refine WN.calm _ rfl rfl rfl rfl rfl (fun _ => r_assign rfl (ev_t rfl)) ?_
                    refine WN.done ?_
                    refine WX.keep [(4, _)] ⟨rfl, trivial⟩ ?_
                    refine WX.next ?_
                    refine WC.ret ?_
                    refine WX.retE1 rfl rfl ?_
                    exact ⟨by simp, hU⟩
          · refine SO.call (refSeal_ok hr1 (by omega)) rfl body_33 ⟨(ev_t rfl), trivial⟩ rfl rfl rfl rfl ?_
            rintro v w10 ⟨ho5, hu10⟩
            have hs10 := hu10.size
            replace hU := hU.fresh hu10 (by first | exact (fun _ h => h.elim) | (intro k hk; simp only [At, New, Grow, From, No] at hk; omega))
            replace hr1 := hr1.upd hu10 (by first | (with_reducible assumption) | exact (fun h => h) | exact (fun _ _ _ h => h) | (simp only [At]; omega) | (intro k hk hl hS; simp only [At] at hS; subst hS; contradiction) | (intro k hk hl hS; simp only [At] at hS; subst hS; exact Grow.old (by omega) (by assumption) hk) | (intro k hk hl hS; (try simp only [At, From, No, Grow, New] at hk hS); omega))
            replace hr2 := hr2.upd hu10 (by first | (with_reducible assumption) | exact (fun h => h) | exact (fun _ _ _ h => h) | (simp only [At]; omega) | (intro k hk hl hS; simp only [At] at hS; subst hS; contradiction) | (intro k hk hl hS; simp only [At] at hS; subst hS; exact Grow.old (by omega) (by assumption) hk) | (intro k hk hl hS; (try simp only [At, From, No, Grow, New] at hk hS); omega))
            replace ho1 := ho1.upd hu10 (by first | (with_reducible assumption) | exact (fun h => h) | exact (fun _ _ _ h => h) | (simp only [At]; omega) | (intro k hk hl hS; simp only [At] at hS; subst hS; contradiction) | (intro k hk hl hS; simp only [At] at hS; subst hS; exact Grow.old (by omega) (by assumption) hk) | (intro k hk hl hS; (try simp only [At, From, No, Grow, New] at hk hS); omega))
            replace ho2 := ho2.upd hu10 (by first | (with_reducible assumption) | exact (fun h => h) | exact (fun _ _ _ h => h) | (simp only [At]; omega) | (intro k hk hl hS; simp only [At] at hS; subst hS; contradiction) | (intro k hk hl hS; simp only [At] at hS; subst hS; exact Grow.old (by omega) (by assumption) hk) | (intro k hk hl hS; (try simp only [At, From, No, Grow, New] at hk hS); omega))
            replace ho3 := ho3.upd hu10 (by first | (with_reducible assumption) | exact (fun h => h) | exact (fun _ _ _ h => h) | (simp only [At]; omega) | (intro k hk hl hS; simp only [At] at hS; subst hS; contradiction) | (intro k hk hl hS; simp only [At] at hS; subst hS; exact Grow.old (by omega) (by assumption) hk) | (intro k hk hl hS; (try simp only [At, From, No, Grow, New] at hk hS); omega))
            replace ho4 := ho4.upd hu10 (by first | (with_reducible assumption) | exact (fun h => h) | exact (fun _ _ _ h => h) | (simp only [At]; omega) | (intro k hk hl hS; simp only [At] at hS; subst hS; contradiction) | (intro k hk hl hS; simp only [At] at hS; subst hS; exact Grow.old (by omega) (by assumption) hk) | (intro k hk hl hS; (try simp only [At, From, No, Grow, New] at hk hS); omega))
            obtain ⟨B5, k5, rfl, hk5⟩ := Own.form ho5
            refine ⟨trivial, ?_⟩
            refine WN.fork _ _ rfl rfl ?_ ?_
            · refine SO.val rfl rfl rfl rfl (r_toStr rfl (ev_t rfl) (ho1.rd (by omega)) elem_37 int_5 str_9) ?_
              refine ⟨trivial, ?_⟩
              refine WN.step _ rfl (SO.val rfl rfl rfl rfl (r_toStr rfl (ev_t rfl) (ho5.rd (by omega)) elem_37 int_5 str_9) ?_)
              refine ⟨trivial, ?_⟩
              refine WN.calm _ rfl rfl rfl rfl rfl (fun _ => r_eqlStr rfl (ev_t rfl) (ev_t rfl)) ?_
              refine WN.calm _ rfl rfl rfl rfl rfl (fun _ => r_move rfl (ev_t rfl)) ?_
              refine WN.cases 44 rfl (fun hb7_6 => ?_) (fun hb7_6 => ?_)
              · try (exfalso; first | (simp at hb7_6; done) | (simp only [decide_eq_true_eq, decide_eq_false_iff_not, Bool.not_eq_true', Bool.not_eq_false', Bool.not_eq_true, Bool.not_eq_false] at hb7_6; omega) | omega)
                all_goals
                  try simp only [decide_eq_true_eq, decide_eq_false_iff_not, Bool.not_eq_true', Bool.not_eq_false', Bool.not_eq_true, Bool.not_eq_false, Option.isNone_none, Option.isNone_some, Option.isSome_none, Option.isSome_some, ne_eq, Decidable.not_not] at hb7_6
                  refine WN.calm _ rfl rfl rfl rfl rfl (fun _ => r_move rfl (ev_t rfl)) ?_
                  refine WN.calm _ rfl rfl rfl rfl rfl (fun _ => r_eql rfl (ev_t rfl) ev_c) ?_
                  refine WN.calm _ rfl rfl rfl rfl rfl (fun _ => r_pickT rfl (ev_t rfl) (ev_t rfl)) ?_
                  refine WN.calm _ rfl rfl rfl rfl rfl (fun _ => r_move rfl (ev_t rfl)) ?_
                  refine WN.cases 48 rfl (fun hb7_10 => ?_) (fun hb7_10 => ?_)
                  · try (exfalso; first | (simp at hb7_10; done) | (simp only [decide_eq_true_eq, decide_eq_false_iff_not, Bool.not_eq_true', Bool.not_eq_false', Bool.not_eq_true, Bool.not_eq_false] at hb7_10; omega) | omega)
                    all_goals
                      try simp only [decide_eq_true_eq, decide_eq_false_iff_not, Bool.not_eq_true', Bool.not_eq_false', Bool.not_eq_true, Bool.not_eq_false, Option.isNone_none, Option.isNone_some, Option.isSome_none, Option.isSome_some, ne_eq, Decidable.not_not] at hb7_10
                      refine WN.calm _ rfl rfl rfl rfl rfl (fun _ => r_move rfl (ev_t rfl)) ?_
                      refine WN.calm _ rfl rfl rfl rfl rfl (fun _ => r_move rfl (ev_t rfl)) ?_
                      refine WN.fork _ _ rfl rfl ?_ ?_
                      · refine SO.val rfl rfl rfl rfl (r_toStr rfl (ev_t rfl) (ho2.rd (by omega)) elem_37 int_5 str_9) ?_
                        refine ⟨trivial, ?_⟩
                        refine WN.step _ rfl (SO.val rfl rfl rfl rfl (r_toStr rfl (ev_t rfl) hr1 elem_37 int_5 str_9) ?_)
                        refine ⟨trivial, ?_⟩
                        refine WN.calm _ rfl rfl rfl rfl rfl (fun _ => r_eqlStr rfl (ev_t rfl) (ev_t rfl)) ?_
                        refine WN.calm _ rfl rfl rfl rfl rfl (fun _ => r_pickT rfl (ev_t rfl) (ev_t rfl)) ?_
                        refine WN.calm _ rfl rfl rfl rfl rfl (fun _ => r_move rfl (ev_t rfl)) ?_
                        refine WN.cases 55 rfl (fun hb7_17 => ?_) (fun hb7_17 => ?_)
                        · try (exfalso; first | (simp at hb7_17; done) | (simp only [decide_eq_true_eq, decide_eq_false_iff_not, Bool.not_eq_true', Bool.not_eq_false', Bool.not_eq_true, Bool.not_eq_false] at hb7_17; omega) | omega)
                          all_goals
                            try simp only [decide_eq_true_eq, decide_eq_false_iff_not, Bool.not_eq_true', Bool.not_eq_false', Bool.not_eq_true, Bool.not_eq_false, Option.isNone_none, Option.isNone_some, Option.isSome_none, Option.isSome_some, ne_eq, Decidable.not_not] at hb7_17
                            refine WN.calm _ rfl rfl rfl rfl rfl (fun _ => r_move rfl (ev_t rfl)) ?_
                            refine WN.calm _ rfl rfl rfl rfl rfl (fun _ => r_move rfl (ev_t rfl)) ?_
                            refine WN.calm _ rfl rfl rfl rfl rfl (fun _ => r_eql rfl (ev_t rfl) (ev_t rfl)) ?_
                            refine WN.calm _ rfl rfl rfl rfl rfl (fun _ => r_pickT rfl (ev_t rfl) (ev_t rfl)) ?_
                            refine WN.calm _ rfl rfl rfl rfl rfl (fun _ => r_move rfl (ev_t rfl)) ?_
                            refine WN.cases 60 rfl (fun hb7_22 => ?_) (fun hb7_22 => ?_)
                            · try (exfalso; first | (simp at hb7_22; done) | (simp only [decide_eq_true_eq, decide_eq_false_iff_not, Bool.not_eq_true', Bool.not_eq_false', Bool.not_eq_true, Bool.not_eq_false] at hb7_22; omega) | omega)
                              all_goals
                                try simp only [decide_eq_true_eq, decide_eq_false_iff_not, Bool.not_eq_true', Bool.not_eq_false', Bool.not_eq_true, Bool.not_eq_false, Option.isNone_none, Option.isNone_some, Option.isSome_none, Option.isSome_some, ne_eq, Decidable.not_not] at hb7_22
                                refine WN.calm _ rfl rfl rfl rfl rfl (fun _ => r_move rfl (ev_t rfl)) ?_
                                refine WN.calm _ rfl rfl rfl rfl rfl (fun _ => r_move rfl (ev_t rfl)) ?_
                                refine WN.fork _ _ rfl rfl ?_ ?_
                                · refine SO.val rfl rfl rfl rfl (r_toStr rfl (ev_t rfl) (ho3.rd (by omega)) elem_37 int_5 str_9) ?_
                                  refine ⟨trivial, ?_⟩
                                  refine WN.step _ rfl (SO.val rfl rfl rfl rfl (r_toStr rfl (ev_t rfl) ho4 elem_37 int_5 str_9) ?_)
                                  refine ⟨trivial, ?_⟩
                                  refine WN.calm _ rfl rfl rfl rfl rfl (fun _ => r_eqlStr rfl (ev_t rfl) (ev_t rfl)) ?_
                                  refine WN.calm _ rfl rfl rfl rfl rfl (fun _ => r_pickT rfl (ev_t rfl) (ev_t rfl)) ?_
                                  refine WN.calm _ rfl rfl rfl rfl rfl (fun _ => r_assign rfl (ev_t rfl)) ?_
                                  refine WN.done ?_
                                  refine WX.keep [(4, _)] ⟨rfl, trivial⟩ ?_
                                  refine WX.next ?_
                                  refine WC.ret ?_
                                  refine WX.retE1 rfl rfl ?_
                                  exact ⟨by simp, hU⟩
                                · refine SO.val rfl rfl rfl rfl (r_toStr rfl (ev_t rfl) ho4 elem_37 int_5 str_9) ?_
                                  refine ⟨trivial, ?_⟩
                                  refine WN.step _ rfl (SO.val rfl rfl rfl rfl (r_toStr rfl (ev_t rfl) (ho3.rd (by omega)) elem_37 int_5 str_9) ?_)
                                  refine ⟨trivial, ?_⟩
                                  refine WN.calm _ rfl rfl rfl rfl rfl (fun _ => r_eqlStr rfl (ev_t rfl) (ev_t rfl)) ?_
                                  refine WN.calm _ rfl rfl rfl rfl rfl (fun _ => r_pickT rfl (ev_t rfl) (ev_t rfl)) ?_
                                  refine WN.calm _ rfl rfl rfl rfl rfl (fun _ => r_assign rfl (ev_t rfl)) ?_
                                  refine WN.done ?_
                                  refine WX.keep [(4, _)] ⟨rfl, trivial⟩ ?_
                                  refine WX.next ?_
                                  refine WC.ret ?_
                                  refine WX.retE1 rfl rfl ?_
                                  exact ⟨by simp, hU⟩
                            · try (exfalso; first | (simp at hb7_22; done) | (simp only [decide_eq_true_eq, decide_eq_false_iff_not, Bool.not_eq_true', Bool.not_eq_false', Bool.not_eq_true, Bool.not_eq_false] at hb7_22; omega) | omega)
                              all_goals
                                try simp only [decide_eq_true_eq, decide_eq_false_iff_not, Bool.not_eq_true', Bool.not_eq_false', Bool.not_eq_true, Bool.not_eq_false, Option.isNone_none, Option.isNone_some, Option.isSome_none, Option.isSome_some, ne_eq, Decidable.not_not] at hb7_22
                                refine WN.skip _ rfl rfl rfl rfl ?_
                                refine WN.skip _ rfl rfl rfl rfl ?_
                                refine WN.fork _ _ rfl rfl ?_ ?_
                                · refine SO.val rfl rfl rfl rfl (r_toStr rfl (ev_t rfl) (ho3.rd (by omega)) elem_37 int_5 str_9) ?_
                                  refine ⟨trivial, ?_⟩
                                  refine WN.step _ rfl (SO.skip rfl rfl rfl ?_)
                                  refine ⟨trivial, ?_⟩
                                  refine WN.skip _ rfl rfl rfl rfl ?_
                                  refine WN.calm _ rfl rfl rfl rfl rfl (fun _ => r_pickF rfl (ev_t rfl) ev_c) ?_
                                  refine WN.calm _ rfl rfl rfl rfl rfl (fun _ => r_assign rfl (ev_t rfl)) ?_
                                  refine WN.done ?_
                                  refine WX.keep [(4, _)] ⟨rfl, trivial⟩ ?_
                                  refine WX.next ?_
                                  refine WC.ret ?_
                                  refine WX.retE1 rfl rfl ?_
                                  exact ⟨by simp, hU⟩
                                · refine SO.val rfl rfl rfl rfl (r_toStr rfl (ev_t rfl) ho4 elem_37 int_5 str_9) ?_
                                  refine ⟨trivial, ?_⟩
                                  refine WN.step _ rfl (SO.skip rfl rfl rfl ?_)
                                  refine ⟨trivial, ?_⟩
                                  refine WN.skip _ rfl rfl rfl rfl ?_
                                  refine WN.calm _ rfl rfl rfl rfl rfl (fun _ => r_pickF rfl (ev_t rfl) ev_c) ?_
                                  refine WN.calm _ rfl rfl rfl rfl rfl (fun _ => r_assign rfl (ev_t rfl)) ?_
                                  refine WN.done ?_
                                  refine WX.keep [(4, _)] ⟨rfl, trivial⟩ ?_
                                  refine WX.next ?_
                                  refine WC.ret ?_
                                  refine WX.retE1 rfl rfl ?_
                                  exact ⟨by simp, hU⟩
                        · try (exfalso; first | (simp at hb7_17; done) | (simp only [decide_eq_true_eq, decide_eq_false_iff_not, Bool.not_eq_true', Bool.not_eq_false', Bool.not_eq_true, Bool.not_eq_false] at hb7_17; omega) | omega)
                          all_goals
                            try simp only [decide_eq_true_eq, decide_eq_false_iff_not, Bool.not_eq_true', Bool.not_eq_false', Bool.not_eq_true, Bool.not_eq_false, Option.isNone_none, Option.isNone_some, Option.isSome_none, Option.isSome_some, ne_eq, Decidable.not_not] at hb7_17
                            refine WN.skip _ rfl rfl rfl rfl ?_
                            refine WN.skip _ rfl rfl rfl rfl ?_
                            refine WN.skip _ rfl rfl rfl rfl ?_
                            refine WN.calm _ rfl rfl rfl rfl rfl (fun _ => r_pickF rfl (ev_t rfl) ev_c) ?_
                            refine WN.calm _ rfl rfl rfl rfl rfl (fun _ => r_move rfl (ev_t rfl)) ?_
                            refine WN.skip _ rfl rfl rfl rfl ?_
                            refine WN.skip _ rfl rfl rfl rfl ?_
                            refine WN.fork _ _ rfl rfl ?_ ?_
                            · refine SO.val rfl rfl rfl rfl (r_toStr rfl (ev_t rfl) (ho3.rd (by omega)) elem_37 int_5 str_9) ?_
                              refine ⟨trivial, ?_⟩
                              refine WN.step _ rfl (SO.skip rfl rfl rfl ?_)
                              refine ⟨trivial, ?_⟩
                              refine WN.skip _ rfl rfl rfl rfl ?_
                              refine WN.calm _ rfl rfl rfl rfl rfl (fun _ => r_pickF rfl (ev_t rfl) ev_c) ?_
                              refine WN.calm _ rfl rfl rfl rfl rfl (fun _ => r_assign rfl (ev_t rfl)) ?_
                              refine WN.done ?_
                              refine WX.keep [(4, _)] ⟨rfl, trivial⟩ ?_
                              refine WX.next ?_
                              refine WC.ret ?_
                              refine WX.retE1 rfl rfl ?_
                              exact ⟨by simp, hU⟩
                            · refine SO.val rfl rfl rfl rfl (r_toStr rfl (ev_t rfl) ho4 elem_37 int_5 str_9) ?_
                              refine ⟨trivial, ?_⟩
                              refine WN.step _ rfl (SO.skip rfl rfl rfl ?_)
                              refine ⟨trivial, ?_⟩
                              refine WN.skip _ rfl rfl rfl rfl ?_
                              refine WN.calm _ rfl rfl rfl rfl rfl (fun _ => r_pickF rfl (ev_t rfl) ev_c) ?_
                              refine WN.calm _ rfl rfl rfl rfl rfl (fun _ => r_assign rfl (ev_t rfl)) ?_
                              refine WN.done ?_
                              refine WX.keep [(4, _)] ⟨rfl, trivial⟩ ?_
                              refine WX.next ?_
                              refine WC.ret ?_
                              refine WX.retE1 rfl rfl ?_
                              exact ⟨by simp, hU⟩
                      · refine SO.val rfl rfl rfl rfl (r_toStr rfl (ev_t rfl) hr1 elem_37 int_5 str_9) ?_
                        refine ⟨trivial, ?_⟩
                        refine WN.step _ rfl (SO.val rfl rfl rfl rfl (r_toStr rfl (ev_t rfl) (ho2.rd (by omega)) elem_37 int_5 str_9) ?_)
                        refine ⟨trivial, ?_⟩
                        refine WN.calm _ rfl rfl rfl rfl rfl (fun _ => r_eqlStr rfl (ev_t rfl) (ev_t rfl)) ?_
                        refine WN.calm _ rfl rfl rfl rfl rfl (fun _ => r_pickT rfl (ev_t rfl) (ev_t rfl)) ?_
                        refine WN.calm _ rfl rfl rfl rfl rfl (fun _ => r_move rfl (ev_t rfl)) ?_
                        refine WN.cases 55 rfl (fun hb7_17 => ?_) (fun hb7_17 => ?_)
                        · try (exfalso; first | (simp at hb7_17; done) | (simp only [decide_eq_true_eq, decide_eq_false_iff_not, Bool.not_eq_true', Bool.not_eq_false', Bool.not_eq_true, Bool.not_eq_false] at hb7_17; omega) | omega)
                          all_goals
                            try simp only [decide_eq_true_eq, decide_eq_false_iff_not, Bool.not_eq_true', Bool.not_eq_false', Bool.not_eq_true, Bool.not_eq_false, Option.isNone_none, Option.isNone_some, Option.isSome_none, Option.isSome_some, ne_eq, Decidable.not_not] at hb7_17
                            refine WN.calm _ rfl rfl rfl rfl rfl (fun _ => r_move rfl (ev_t rfl)) ?_
                            refine WN.calm _ rfl rfl rfl rfl rfl (fun _ => r_move rfl (ev_t rfl)) ?_
                            refine WN.calm _ rfl rfl rfl rfl rfl (fun _ => r_eql rfl (ev_t rfl) (ev_t rfl)) ?_
                            refine WN.calm _ rfl rfl rfl rfl rfl (fun _ => r_pickT rfl (ev_t rfl) (ev_t rfl)) ?_
                            refine WN.calm _ rfl rfl rfl rfl rfl (fun _ => r_move rfl (ev_t rfl)) ?_
                            refine WN.cases 60 rfl (fun hb7_22 => ?_) (fun hb7_22 => ?_)
                            · try (exfalso; first | (simp at hb7_22; done) | (simp only [decide_eq_true_eq, decide_eq_false_iff_not, Bool.not_eq_true', Bool.not_eq_false', Bool.not_eq_true, Bool.not_eq_false] at hb7_22; omega) | omega)
                              all_goals
                                try simp only [decide_eq_true_eq, decide_eq_false_iff_not, Bool.not_eq_true', Bool.not_eq_false', Bool.not_eq_true, Bool.not_eq_false, Option.isNone_none, Option.isNone_some, Option.isSome_none, Option.isSome_some, ne_eq, Decidable.not_not] at hb7_22
                                refine WN.calm _ rfl rfl rfl rfl rfl (fun _ => r_move rfl (ev_t rfl)) ?_
                                refine WN.calm _ rfl rfl rfl rfl rfl (fun _ => r_move rfl (ev_t rfl)) ?_
                                refine WN.fork _ _ rfl rfl ?_ ?_
                                · refine SO.val rfl rfl rfl rfl (r_toStr rfl (ev_t rfl) (ho3.rd (by omega)) elem_37 int_5 str_9) ?_
                                  refine ⟨trivial, ?_⟩
                                  refine WN.step _ rfl (SO.val rfl rfl rfl rfl (r_toStr rfl (ev_t rfl) ho4 elem_37 int_5 str_9) ?_)
                                  refine ⟨trivial, ?_⟩
                                  refine WN.calm _ rfl rfl rfl rfl rfl (fun _ => r_eqlStr rfl (ev_t rfl) (ev_t rfl)) ?_
                                  refine WN.calm _ rfl rfl rfl rfl rfl (fun _ => r_pickT rfl (ev_t rfl) (ev_t rfl)) ?_
                                  refine WN.calm _ rfl rfl rfl rfl rfl (fun _ => r_assign rfl (ev_t rfl)) ?_
                                  refine WN.done ?_
                                  refine WX.keep [(4, _)] ⟨rfl, trivial⟩ ?_
                                  refine WX.next ?_
                                  refine WC.ret ?_
                                  refine WX.retE1 rfl rfl ?_
                                  exact ⟨by simp, hU⟩
                                · refine SO.val rfl rfl rfl rfl (r_toStr rfl (ev_t rfl) ho4 elem_37 int_5 str_9) ?_
                                  refine ⟨trivial, ?_⟩
                                  refine WN.step _ rfl (SO.val rfl rfl rfl rfl (r_toStr rfl (ev_t rfl) (ho3.rd (by omega)) elem_37 int_5 str_9) ?_)
                                  refine ⟨trivial, ?_⟩
                                  refine WN.calm _ rfl rfl rfl rfl rfl (fun _ => r_eqlStr rfl (ev_t rfl) (ev_t rfl)) ?_
                                  refine WN.calm _ rfl rfl rfl rfl rfl (fun _ => r_pickT rfl (ev_t rfl) (ev_t rfl)) ?_
                                  refine WN.calm _ rfl rfl rfl rfl rfl (fun _ => r_assign rfl (ev_t rfl)) ?_
                                  refine WN.done ?_
                                  refine WX.keep [(4, _)] ⟨rfl, trivial⟩ ?_
                                  refine WX.next ?_
                                  refine WC.ret ?_
                                  refine WX.retE1 rfl rfl ?_
                                  exact ⟨by simp, hU⟩
                            · try (exfalso; first | (simp at hb7_22; done) | (simp only [decide_eq_true_eq, decide_eq_false_iff_not, Bool.not_eq_true', Bool.not_eq_false', Bool.not_eq_true, Bool.not_eq_false] at hb7_22; omega) | omega)
                              all_goals
                                try simp only [decide_eq_true_eq, decide_eq_false_iff_not, Bool.not_eq_true', Bool.not_eq_false', Bool.not_eq_true, Bool.not_eq_false, Option.isNone_none, Option.isNone_some, Option.isSome_none, Option.isSome_some, ne_eq, Decidable.not_not] at hb7_22
                                refine WN.skip _ rfl rfl rfl rfl ?_
                                refine WN.skip _ rfl rfl rfl rfl ?_
                                refine WN.fork _ _ rfl rfl ?_ ?_
                                · refine SO.val rfl rfl rfl rfl (r_toStr rfl (ev_t rfl) (ho3.rd (by omega)) elem_37 int_5 str_9) ?_
                                  refine ⟨trivial, ?_⟩
                                  refine WN.step _ rfl (SO.skip rfl rfl rfl ?_)
                                  refine ⟨trivial, ?_⟩
                                  refine WN.skip _ rfl rfl rfl rfl ?_
                                  refine WN.calm _ rfl rfl rfl rfl rfl (fun _ => r_pickF rfl (ev_t rfl) ev_c) ?_
                                  refine WN.calm _ rfl rfl rfl rfl rfl (fun _ => r_assign rfl (ev_t rfl)) ?_
                                  refine WN.done ?_
                                  refine WX.keep [(4, _)] ⟨rfl, trivial⟩ ?_
                                  refine WX.next ?_
                                  refine WC.ret ?_
                                  refine WX.retE1 rfl rfl ?_
                                  exact ⟨by simp, hU⟩
                                · refine SO.val rfl rfl rfl rfl (r_toStr rfl (ev_t rfl) ho4 elem_37 int_5 str_9) ?_
                                  refine ⟨trivial, ?_⟩
                                  refine WN.step _ rfl (SO.skip rfl rfl rfl ?_)
                                  refine ⟨trivial, ?_⟩
                                  refine WN.skip _ rfl rfl rfl rfl ?_
                                  refine WN.calm _ rfl rfl rfl rfl rfl (fun _ => r_pickF rfl (ev_t rfl) ev_c) ?_
                                  refine WN.calm _ rfl rfl rfl rfl rfl (fun _ => r_assign rfl (ev_t rfl)) ?_
                                  refine WN.done ?_
                                  refine WX.keep [(4, _)] ⟨rfl, trivial⟩ ?_
                                  refine WX.next ?_
                                  refine WC.ret ?_
                                  refine WX.retE1 rfl rfl ?_
                                  exact ⟨by simp, hU⟩
                        · try (exfalso; first | (simp at hb7_17; done) | (simp only [decide_eq_true_eq, decide_eq_false_iff_not, Bool.not_eq_true', Bool.not_eq_false', Bool.not_eq_true, Bool.not_eq_false] at hb7_17; omega) | omega)
                          all_goals
                            try simp only [decide_eq_true_eq, decide_eq_false_iff_not, Bool.not_eq_true', Bool.not_eq_false', Bool.not_eq_true, Bool.not_eq_false, Option.isNone_none, Option.isNone_some, Option.isSome_none, Option.isSome_some, ne_eq, Decidable.not_not] at hb7_17
                            refine WN.skip _ rfl rfl rfl rfl ?_
                            refine WN.skip _ rfl rfl rfl rfl ?_
                            refine WN.skip _ rfl rfl rfl rfl ?_
                            refine WN.calm _ rfl rfl rfl rfl rfl (fun _ => r_pickF rfl (ev_t rfl) ev_c) ?_
                            refine WN.calm _ rfl rfl rfl rfl rfl (fun _ => r_move rfl (ev_t rfl)) ?_
                            refine WN.skip _ rfl rfl rfl rfl ?_
                            refine WN.skip _ rfl rfl rfl rfl ?_
                            refine WN.fork _ _ rfl rfl ?_ ?_
                            · refine SO.val rfl rfl rfl rfl (r_toStr rfl (ev_t rfl) (ho3.rd (by omega)) elem_37 int_5 str_9) ?_
                              refine ⟨trivial, ?_⟩
                              refine WN.step _ rfl (SO.skip rfl rfl rfl ?_)
                              refine ⟨trivial, ?_⟩
                              refine WN.skip _ rfl rfl rfl rfl ?_
                              refine WN.calm _ rfl rfl rfl rfl rfl (fun _ => r_pickF rfl (ev_t rfl) ev_c) ?_
                              refine WN.calm _ rfl rfl rfl rfl rfl (fun _ => r_assign rfl (ev_t rfl)) ?_
                              refine WN.done ?_
                              refine WX.keep [(4, _)] ⟨rfl, trivial⟩ ?_
                              refine WX.next ?_
                              refine WC.ret ?_
                              refine WX.retE1 rfl rfl ?_
                              exact ⟨by simp, hU⟩
                            · refine SO.val rfl rfl rfl rfl (r_toStr rfl (ev_t rfl) ho4 elem_37 int_5 str_9) ?_
                              refine ⟨trivial, ?_⟩
                              refine WN.step _ rfl (SO.skip rfl rfl rfl ?_)
                              refine ⟨trivial, ?_⟩
                              refine WN.skip _ rfl rfl rfl rfl ?_
                              refine WN.calm _ rfl rfl rfl rfl rfl (fun _ => r_pickF rfl (ev_t rfl) ev_c) ?_
                              refine WN.calm _ rfl rfl rfl rfl rfl (fun _ => r_assign rfl (ev_t rfl)) ?_
                              refine WN.done ?_
                              refine WX.keep [(4, _)] ⟨rfl, trivial⟩ ?_
                              refine WX.next ?_
                              refine WC.ret ?_
                              refine WX.retE1 rfl rfl ?_
                              exact ⟨by simp, hU⟩
                  · try (exfalso; first | (simp at hb7_10; done) | (simp only [decide_eq_true_eq, decide_eq_false_iff_not, Bool.not_eq_true', Bool.not_eq_false', Bool.not_eq_true, Bool.not_eq_false] at hb7_10; omega) | omega)
                    all_goals
                      try simp only [decide_eq_true_eq, decide_eq_false_iff_not, Bool.not_eq_true', Bool.not_eq_false', Bool.not_eq_true, Bool.not_eq_false, Option.isNone_none, Option.isNone_some, Option.isSome_none, Option.isSome_some, ne_eq, Decidable.not_not] at hb7_10
                      refine WN.skip _ rfl rfl rfl rfl ?_
                      refine WN.skip _ rfl rfl rfl rfl ?_
                      refine WN.fork _ _ rfl rfl ?_ ?_
                      · refine SO.val rfl rfl rfl rfl (r_toStr rfl (ev_t rfl) (ho2.rd (by omega)) elem_37 int_5 str_9) ?_
                        refine ⟨trivial, ?_⟩
                        refine WN.step _ rfl (SO.skip rfl rfl rfl ?_)
                        refine ⟨trivial, ?_⟩
                        refine WN.skip _ rfl rfl rfl rfl ?_
                        refine WN.calm _ rfl rfl rfl rfl rfl (fun _ => r_pickF rfl (ev_t rfl) ev_c) ?_
                        refine WN.calm _ rfl rfl rfl rfl rfl (fun _ => r_move rfl (ev_t rfl)) ?_
                        refine WN.skip _ rfl rfl rfl rfl ?_
                        refine WN.skip _ rfl rfl rfl rfl ?_
                        refine WN.skip _ rfl rfl rfl rfl ?_
                        refine WN.calm _ rfl rfl rfl rfl rfl (fun _ => r_pickF rfl (ev_t rfl) ev_c) ?_
                        refine WN.calm _ rfl rfl rfl rfl rfl (fun _ => r_move rfl (ev_t rfl)) ?_
                        refine WN.skip _ rfl rfl rfl rfl ?_
                        refine WN.skip _ rfl rfl rfl rfl ?_
                        refine WN.fork _ _ rfl rfl ?_ ?_
                        · refine SO.val rfl rfl rfl rfl (r_toStr rfl (ev_t rfl) (ho3.rd (by omega)) elem_37 int_5 str_9) ?_
                          refine ⟨trivial, ?_⟩
                          refine WN.step _ rfl (SO.skip rfl rfl rfl ?_)
                          refine ⟨trivial, ?_⟩
                          refine WN.skip _ rfl rfl rfl rfl ?_
                          refine WN.calm _ rfl rfl rfl rfl rfl (fun _ => r_pickF rfl (ev_t rfl) ev_c) ?_
                          refine WN.calm _ rfl rfl rfl rfl rfl (fun _ => r_assign rfl (ev_t rfl)) ?_
                          refine WN.done ?_
                          refine WX.keep [(4, _)] ⟨rfl, trivial⟩ ?_
                          refine WX.next ?_
                          refine WC.ret ?_
                          refine WX.retE1 rfl rfl ?_
                          exact ⟨by simp, hU⟩
                        · refine SO.val rfl rfl rfl rfl (r_toStr rfl (ev_t rfl) ho4 elem_37 int_5 str_9) ?_
                          refine ⟨trivial, ?_⟩
                          refine WN.step _ rfl (SO.skip rfl rfl rfl ?_)
                          refine ⟨trivial, ?_⟩
                          refine WN.skip _ rfl rfl rfl rfl ?_
                          refine WN.calm _ rfl rfl rfl rfl rfl (fun _ => r_pickF rfl (ev_t rfl) ev_c) ?_
                          refine WN.calm _ rfl rfl rfl rfl rfl (fun _ => r_assign rfl (ev_t rfl)) ?_
                          refine WN.done ?_
                          refine WX.keep [(4, _)] ⟨rfl, trivial⟩ ?_
                          refine WX.next ?_
                          refine WC.ret ?_
                          refine WX.retE1 rfl rfl ?_
                          exact ⟨by simp, hU⟩
                      · refine SO.val rfl rfl rfl rfl (r_toStr rfl (ev_t rfl) hr1 elem_37 int_5 str_9) ?_
                        refine ⟨trivial, ?_⟩
                        refine WN.step _ rfl (SO.skip rfl rfl rfl ?_)
                        refine ⟨trivial, ?_⟩
                        refine WN.skip _ rfl rfl rfl rfl ?_
                        refine WN.calm _ rfl rfl rfl rfl rfl (fun _ => r_pickF rfl (ev_t rfl) ev_c) ?_
                        refine WN.calm _ rfl rfl rfl rfl rfl (fun _ => r_move rfl (ev_t rfl)) ?_
                        refine WN.skip _ rfl rfl rfl rfl ?_
                        refine WN.skip _ rfl rfl rfl rfl ?_
                        refine WN.skip _ rfl rfl rfl rfl ?_
                        refine WN.calm _ rfl rfl rfl rfl rfl (fun _ => r_pickF rfl (ev_t rfl) ev_c) ?_
                        refine WN.calm _ rfl rfl rfl rfl rfl (fun _ => r_move rfl (ev_t rfl)) ?_
                        refine WN.skip _ rfl rfl rfl rfl ?_
                        refine WN.skip _ rfl rfl rfl rfl ?_
                        refine WN.fork _ _ rfl rfl ?_ ?_
                        · refine SO.val rfl rfl rfl rfl (r_toStr rfl (ev_t rfl) (ho3.rd (by omega)) elem_37 int_5 str_9) ?_
                          refine ⟨trivial, ?_⟩
                          refine WN.step _ rfl (SO.skip rfl rfl rfl ?_)
                          refine ⟨trivial, ?_⟩
                          refine WN.skip _ rfl rfl rfl rfl ?_
                          refine WN.calm _ rfl rfl rfl rfl rfl (fun _ => r_pickF rfl (ev_t rfl) ev_c) ?_
                          refine WN.calm _ rfl rfl rfl rfl rfl (fun _ => r_assign rfl (ev_t rfl)) ?_
                          refine WN.done ?_
                          refine WX.keep [(4, _)] ⟨rfl, trivial⟩ ?_
                          refine WX.next ?_
                          refine WC.ret ?_
                          refine WX.retE1 rfl rfl ?_
                          exact ⟨by simp, hU⟩
                        · refine SO.val rfl rfl rfl rfl (r_toStr rfl (ev_t rfl) ho4 elem_37 int_5 str_9) ?_
                          refine ⟨trivial, ?_⟩
                          refine WN.step _ rfl (SO.skip rfl rfl rfl ?_)
                          refine ⟨trivial, ?_⟩
                          refine WN.skip _ rfl rfl rfl rfl ?_
                          refine WN.calm _ rfl rfl rfl rfl rfl (fun _ => r_pickF rfl (ev_t rfl) ev_c) ?_
                          refine WN.calm _ rfl rfl rfl rfl rfl (fun _ => r_assign rfl (ev_t rfl)) ?_
                          refine WN.done ?_
                          refine WX.keep [(4, _)] ⟨rfl, trivial⟩ ?_
                          refine WX.next ?_
                          refine WC.ret ?_
                          refine WX.retE1 rfl rfl ?_
                          exact ⟨by simp, hU⟩
              · try (exfalso; first | (simp at hb7_6; done) | (simp only [decide_eq_true_eq, decide_eq_false_iff_not, Bool.not_eq_true', Bool.not_eq_false', Bool.not_eq_true, Bool.not_eq_false] at hb7_6; omega) | omega)
                all_goals
                  try simp only [decide_eq_true_eq, decide_eq_false_iff_not, Bool.not_eq_true', Bool.not_eq_false', Bool.not_eq_true, Bool.not_eq_false, Option.isNone_none, Option.isNone_some, Option.isSome_none, Option.isSome_some, ne_eq, Decidable.not_not] at hb7_6
                  refine WN.skip _ rfl rfl rfl rfl ?_
                  refine WN.skip _ rfl rfl rfl rfl ?_
                  refine WN.calm _ rfl rfl rfl rfl rfl (fun _ => r_pickF rfl (ev_t rfl) ev_c) ?_
                  refine WN.calm _ rfl rfl rfl rfl rfl (fun _ => r_move rfl (ev_t rfl)) ?_
                  refine WN.skip _ rfl rfl rfl rfl ?_
                  refine WN.skip _ rfl rfl rfl rfl ?_
                  refine WN.fork _ _ rfl rfl ?_ ?_
                  · refine SO.val rfl rfl rfl rfl (r_toStr rfl (ev_t rfl) (ho2.rd (by omega)) elem_37 int_5 str_9) ?_
                    refine ⟨trivial, ?_⟩
                    refine WN.step _ rfl (SO.skip rfl rfl rfl ?_)
                    refine ⟨trivial, ?_⟩
                    refine WN.skip _ rfl rfl rfl rfl ?_
                    refine WN.calm _ rfl rfl rfl rfl rfl (fun _ => r_pickF rfl (ev_t rfl) ev_c) ?_
                    refine WN.calm _ rfl rfl rfl rfl rfl (fun _ => r_move rfl (ev_t rfl)) ?_
                    refine WN.skip _ rfl rfl rfl rfl ?_
                    refine WN.skip _ rfl rfl rfl rfl ?_
                    refine WN.skip _ rfl rfl rfl rfl ?_
                    refine WN.calm _ rfl rfl rfl rfl rfl (fun _ => r_pickF rfl (ev_t rfl) ev_c) ?_
                    refine WN.calm _ rfl rfl rfl rfl rfl (fun _ => r_move rfl (ev_t rfl)) ?_
                    refine WN.skip _ rfl rfl rfl rfl ?_
                    refine WN.skip _ rfl rfl rfl rfl ?_
                    refine WN.fork _ _ rfl rfl ?_ ?_
                    · refine SO.val rfl rfl rfl rfl (r_toStr rfl (ev_t rfl) (ho3.rd (by omega)) elem_37 int_5 str_9) ?_
                      refine ⟨trivial, ?_⟩
                      refine WN.step _ rfl (SO.skip rfl rfl rfl ?_)
                      refine ⟨trivial, ?_⟩
                      refine WN.skip _ rfl rfl rfl rfl ?_
                      refine WN.calm _ rfl rfl rfl rfl rfl (fun _ => r_pickF rfl (ev_t rfl) ev_c) ?_
                      refine WN.calm _ rfl rfl rfl rfl rfl (fun _ => r_assign rfl (ev_t rfl)) ?_
                      refine WN.done ?_
                      refine WX.keep [(4, _)] ⟨rfl, trivial⟩ ?_
                      refine WX.next ?_
                      refine WC.ret ?_
                      refine WX.retE1 rfl rfl ?_
                      exact ⟨by simp, hU⟩
                    · refine SO.val rfl rfl rfl rfl (r_toStr rfl (ev_t rfl) ho4 elem_37 int_5 str_9) ?_
                      refine ⟨trivial, ?_⟩
                      refine WN.step _ rfl (SO.skip rfl rfl rfl ?_)
                      refine ⟨trivial, ?_⟩
                      refine WN.skip _ rfl rfl rfl rfl ?_
                      refine WN.calm _ rfl rfl rfl rfl rfl (fun _ => r_pickF rfl (ev_t rfl) ev_c) ?_
                      refine WN.calm _ rfl rfl rfl rfl rfl (fun _ => r_assign rfl (ev_t rfl)) ?_
                      refine WN.done ?_
                      refine WX.keep [(4, _)] ⟨rfl, trivial⟩ ?_
                      refine WX.next ?_
                      refine WC.ret ?_
                      refine WX.retE1 rfl rfl ?_
                      exact ⟨by simp, hU⟩
                  · refine SO.val rfl rfl rfl rfl (r_toStr rfl (ev_t rfl) hr1 elem_37 int_5 str_9) ?_
                    refine ⟨trivial, ?_⟩
                    refine WN.step _ rfl (SO.skip rfl rfl rfl ?_)
                    refine ⟨trivial, ?_⟩
                    refine WN.skip _ rfl rfl rfl rfl ?_
                    refine WN.calm _ rfl rfl rfl rfl rfl (fun _ => r_pickF rfl (ev_t rfl) ev_c) ?_
                    refine WN.calm _ rfl rfl rfl rfl rfl (fun _ => r_move rfl (ev_t rfl)) ?_
                    refine WN.skip _ rfl rfl rfl rfl ?_
                    refine WN.skip _ rfl rfl rfl rfl ?_
                    refine WN.skip _ rfl rfl rfl rfl ?_
                    refine WN.calm _ rfl rfl rfl rfl rfl (fun _ => r_pickF rfl (ev_t rfl) ev_c) ?_
                    refine WN.calm _ rfl rfl rfl rfl rfl (fun _ => r_move rfl (ev_t rfl)) ?_
                    refine WN.skip _ rfl rfl rfl rfl ?_
                    refine WN.skip _ rfl rfl rfl rfl ?_
                    refine WN.fork _ _ rfl rfl ?_ ?_
                    · refine SO.val rfl rfl rfl rfl (r_toStr rfl (ev_t rfl) (ho3.rd (by omega)) elem_37 int_5 str_9) ?_
                      refine ⟨trivial, ?_⟩
                      refine WN.step _ rfl (SO.skip rfl rfl rfl ?_)
                      refine ⟨trivial, ?_⟩
                      refine WN.skip _ rfl rfl rfl rfl ?_
                      refine WN.calm _ rfl rfl rfl rfl rfl (fun _ => r_pickF rfl (ev_t rfl) ev_c) ?_
                      refine WN.calm _ rfl rfl rfl rfl rfl (fun _ => r_assign rfl (ev_t rfl)) ?_
                      refine WN.done ?_
                      refine WX.keep [(4, _)] ⟨rfl, trivial⟩ ?_
                      refine WX.next ?_
                      refine WC.ret ?_
                      refine WX.retE1 rfl rfl ?_
                      exact ⟨by simp, hU⟩
                    · refine SO.val rfl rfl rfl rfl (r_toStr rfl (ev_t rfl) ho4 elem_37 int_5 str_9) ?_
                      refine ⟨trivial, ?_⟩
                      refine WN.step _ rfl (SO.skip rfl rfl rfl ?_)
                      refine ⟨trivial, ?_⟩
                      refine WN.skip _ rfl rfl rfl rfl ?_
                      refine WN.calm _ rfl rfl rfl rfl rfl (fun _ => r_pickF rfl (ev_t rfl) ev_c) ?_
                      refine WN.calm _ rfl rfl rfl rfl rfl (fun _ => r_assign rfl (ev_t rfl)) ?_
                      refine WN.done ?_
                      refine WX.keep [(4, _)] ⟨rfl, trivial⟩ ?_
                      refine WX.next ?_
                      refine WC.ret ?_
                      refine WX.retE1 rfl rfl ?_
                      exact ⟨by simp, hU⟩
            · refine SO.val rfl rfl rfl rfl (r_toStr rfl (ev_t rfl) (ho5.rd (by omega)) elem_37 int_5 str_9) ?_
              refine ⟨trivial, ?_⟩
              refine WN.step _ rfl (SO.val rfl rfl rfl rfl (r_toStr rfl (ev_t rfl) (ho1.rd (by omega)) elem_37 int_5 str_9) ?_)
              refine ⟨trivial, ?_⟩
              refine WN.calm _ rfl rfl rfl rfl rfl (fun _ => r_eqlStr rfl (ev_t rfl) (ev_t rfl)) ?_
              refine WN.calm _ rfl rfl rfl rfl rfl (fun _ => r_move rfl (ev_t rfl)) ?_
              refine WN.cases 44 rfl (fun hb7_6 => ?_) (fun hb7_6 => ?_)
              · try (exfalso; first | (simp at hb7_6; done) | (simp only [decide_eq_true_eq, decide_eq_false_iff_not, Bool.not_eq_true', Bool.not_eq_false', Bool.not_eq_true, Bool.not_eq_false] at hb7_6; omega) | omega)
                all_goals
                  try simp only [decide_eq_true_eq, decide_eq_false_iff_not, Bool.not_eq_true', Bool.not_eq_false', Bool.not_eq_true, Bool.not_eq_false, Option.isNone_none, Option.isNone_some, Option.isSome_none, Option.isSome_some, ne_eq, Decidable.not_not] at hb7_6
                  refine WN.calm _ rfl rfl rfl rfl rfl (fun _ => r_move rfl (ev_t rfl)) ?_
                  refine WN.calm _ rfl rfl rfl rfl rfl (fun _ => r_eql rfl (ev_t rfl) ev_c) ?_
                  refine WN.calm _ rfl rfl rfl rfl rfl (fun _ => r_pickT rfl (ev_t rfl) (ev_t rfl)) ?_
                  refine WN.calm _ rfl rfl rfl rfl rfl (fun _ => r_move rfl (ev_t rfl)) ?_
                  refine WN.cases 48 rfl (fun hb7_10 => ?_) (fun hb7_10 => ?_)
                  · try (exfalso; first | (simp at hb7_10; done) | (simp only [decide_eq_true_eq, decide_eq_false_iff_not, Bool.not_eq_true', Bool.not_eq_false', Bool.not_eq_true, Bool.not_eq_false] at hb7_10; omega) | omega)
                    all_goals
                      try simp only [decide_eq_true_eq, decide_eq_false_iff_not, Bool.not_eq_true', Bool.not_eq_false', Bool.not_eq_true, Bool.not_eq_false, Option.isNone_none, Option.isNone_some, Option.isSome_none, Option.isSome_some, ne_eq, Decidable.not_not] at hb7_10
                      refine WN.calm _ rfl rfl rfl rfl rfl (fun _ => r_move rfl (ev_t rfl)) ?_
                      refine WN.calm _ rfl rfl rfl rfl rfl (fun _ => r_move rfl (ev_t rfl)) ?_
                      refine WN.fork _ _ rfl rfl ?_ ?_
                      · refine SO.val rfl rfl rfl rfl (r_toStr rfl (ev_t rfl) (ho2.rd (by omega)) elem_37 int_5 str_9) ?_
                        refine ⟨trivial, ?_⟩
                        refine WN.step _ rfl (SO.val rfl rfl rfl rfl (r_toStr rfl (ev_t rfl) hr1 elem_37 int_5 str_9) ?_)
                        refine ⟨trivial, ?_⟩
                        refine WN.calm _ rfl rfl rfl rfl rfl (fun _ => r_eqlStr rfl (ev_t rfl) (ev_t rfl)) ?_
                        refine WN.calm _ rfl rfl rfl rfl rfl (fun _ => r_pickT rfl (ev_t rfl) (ev_t rfl)) ?_
                        refine WN.calm _ rfl rfl rfl rfl rfl (fun _ => r_move rfl (ev_t rfl)) ?_
                        refine WN.cases 55 rfl (fun hb7_17 => ?_) (fun hb7_17 => ?_)
                        · try (exfalso; first | (simp at hb7_17; done) | (simp only [decide_eq_true_eq, decide_eq_false_iff_not, Bool.not_eq_true', Bool.not_eq_false', Bool.not_eq_true, Bool.not_eq_false] at hb7_17; omega) | omega)
                          all_goals
                            try simp only [decide_eq_true_eq, decide_eq_false_iff_not, Bool.not_eq_true', Bool.not_eq_false', Bool.not_eq_true, Bool.not_eq_false, Option.isNone_none, Option.isNone_some, Option.isSome_none, Option.isSome_some, ne_eq, Decidable.not_not] at hb7_17
                            refine WN.calm _ rfl rfl rfl rfl rfl (fun _ => r_move rfl (ev_t rfl)) ?_
                            refine WN.calm _ rfl rfl rfl rfl rfl (fun _ => r_move rfl (ev_t rfl)) ?_
                            refine WN.calm _ rfl rfl rfl rfl rfl (fun _ => r_eql rfl (ev_t rfl) (ev_t rfl)) ?_
                            refine WN.calm _ rfl rfl rfl rfl rfl (fun _ => r_pickT rfl (ev_t rfl) (ev_t rfl)) ?_
                            refine WN.calm _ rfl rfl rfl rfl rfl (fun _ => r_move rfl (ev_t rfl)) ?_
                            refine WN.cases 60 rfl (fun hb7_22 => ?_) (fun hb7_22 => ?_)
                            · try (exfalso; first | (simp at hb7_22; done) | (simp only [decide_eq_true_eq, decide_eq_false_iff_not, Bool.not_eq_true', Bool.not_eq_false', Bool.not_eq_true, Bool.not_eq_false] at hb7_22; omega) | omega)
                              all_goals
                                try simp only [decide_eq_true_eq, decide_eq_false_iff_not, Bool.not_eq_true', Bool.not_eq_false', Bool.not_eq_true, Bool.not_eq_false, Option.isNone_none, Option.isNone_some, Option.isSome_none, Option.isSome_some, ne_eq, Decidable.not_not] at hb7_22
                                refine WN.calm _ rfl rfl rfl rfl rfl (fun _ => r_move rfl (ev_t rfl)) ?_
                                refine WN.calm _ rfl rfl rfl rfl rfl (fun _ => r_move rfl (ev_t rfl)) ?_
                                refine WN.fork _ _ rfl rfl ?_ ?_
                                · refine SO.val rfl rfl rfl rfl (r_toStr rfl (ev_t rfl) (ho3.rd (by omega)) elem_37 int_5 str_9) ?_
                                  refine ⟨trivial, ?_⟩
                                  refine WN.step _ rfl (SO.val rfl rfl rfl rfl (r_toStr rfl (ev_t rfl) ho4 elem_37 int_5 str_9) ?_)
                                  refine ⟨trivial, ?_⟩
                                  refine WN.calm _ rfl rfl rfl rfl rfl (fun _ => r_eqlStr rfl (ev_t rfl) (ev_t rfl)) ?_
                                  refine WN.calm _ rfl rfl rfl rfl rfl (fun _ => r_pickT rfl (ev_t rfl) (ev_t rfl)) ?_
                                  refine WN.calm _ rfl rfl rfl rfl rfl (fun _ => r_assign rfl (ev_t rfl)) ?_
                                  refine WN.done ?_
                                  refine WX.keep [(4, _)] ⟨rfl, trivial⟩ ?_
                                  refine WX.next ?_
                                  refine WC.ret ?_
                                  refine WX.retE1 rfl rfl ?_
                                  exact ⟨by simp, hU⟩
                                · refine SO.val rfl rfl rfl rfl (r_toStr rfl (ev_t rfl) ho4 elem_37 int_5 str_9) ?_
                                  refine ⟨trivial, ?_⟩
                                  refine WN.step _ rfl (SO.val rfl rfl rfl rfl (r_toStr rfl (ev_t rfl) (ho3.rd (by omega)) elem_37 int_5 str_9) ?_)
                                  refine ⟨trivial, ?_⟩
                                  refine WN.calm _ rfl rfl rfl rfl rfl (fun _ => r_eqlStr rfl (ev_t rfl) (ev_t rfl)) ?_
                                  refine WN.calm _ rfl rfl rfl rfl rfl (fun _ => r_pickT rfl (ev_t rfl) (ev_t rfl)) ?_
                                  refine WN.calm _ rfl rfl rfl rfl rfl (fun _ => r_assign rfl (ev_t rfl)) ?_
                                  refine WN.done ?_
                                  refine WX.keep [(4, _)] ⟨rfl, trivial⟩ ?_
                                  refine WX.next ?_
                                  refine WC.ret ?_
                                  refine WX.retE1 rfl rfl ?_
                                  exact ⟨by simp, hU⟩
                            · try (exfalso; first | (simp at hb7_22; done) | (simp only [decide_eq_true_eq, decide_eq_false_iff_not, Bool.not_eq_true', Bool.not_eq_false', Bool.not_eq_true, Bool.not_eq_false] at hb7_22; omega) | omega)
                              all_goals
                                try simp only [decide_eq_true_eq, decide_eq_false_iff_not, Bool.not_eq_true', Bool.not_eq_false', Bool.not_eq_true, Bool.not_eq_false, Option.isNone_none, Option.isNone_some, Option.isSome_none, Option.isSome_some, ne_eq, Decidable.not_not] at hb7_22
                                refine WN.skip _ rfl rfl rfl rfl ?_
                                refine WN.skip _ rfl rfl rfl rfl ?_
                                refine WN.fork _ _ rfl rfl ?_ ?_
                                · refine SO.val rfl rfl rfl rfl (r_toStr rfl (ev_t rfl) (ho3.rd (by omega)) elem_37 int_5 str_9) ?_
                                  refine ⟨trivial, ?_⟩
                                  refine WN.step _ rfl (SO.skip rfl rfl rfl ?_)
                                  refine ⟨trivial, ?_⟩
                                  refine WN.skip _ rfl rfl rfl rfl ?_
                                  refine WN.calm _ rfl rfl rfl rfl rfl (fun _ => r_pickF rfl (ev_t rfl) ev_c) ?_
                                  refine WN.calm _ rfl rfl rfl rfl rfl (fun _ => r_assign rfl (ev_t rfl)) ?_
                                  refine WN.done ?_
                                  refine WX.keep [(4, _)] ⟨rfl, trivial⟩ ?_
                                  refine WX.next ?_
                                  refine WC.ret ?_
                                  refine WX.retE1 rfl rfl ?_
                                  exact ⟨by simp, hU⟩
                                · refine SO.val rfl rfl rfl rfl (r_toStr rfl (ev_t rfl) ho4 elem_37 int_5 str_9) ?_
                                  refine ⟨trivial, ?_⟩
                                  refine WN.step _ rfl (SO.skip rfl rfl rfl ?_)
                                  refine ⟨trivial, ?_⟩
                                  refine WN.skip _ rfl rfl rfl rfl ?_
                                  refine WN.calm _ rfl rfl rfl rfl rfl (fun _ => r_pickF rfl (ev_t rfl) ev_c) ?_
                                  refine WN.calm _ rfl rfl rfl rfl rfl (fun _ => r_assign rfl (ev_t rfl)) ?_
                                  refine WN.done ?_
                                  refine WX.keep [(4, _)] ⟨rfl, trivial⟩ ?_
                                  refine WX.next ?_
                                  refine WC.ret ?_
                                  refine WX.retE1 rfl rfl ?_
                                  exact ⟨by simp, hU⟩
                        · try (exfalso; first | (simp at hb7_17; done) | (simp only [decide_eq_true_eq, decide_eq_false_iff_not, Bool.not_eq_true', Bool.not_eq_false', Bool.not_eq_true, Bool.not_eq_false] at hb7_17; omega) | omega)
                          all_goals
                            try simp only [decide_eq_true_eq, decide_eq_false_iff_not, Bool.not_eq_true', Bool.not_eq_false', Bool.not_eq_true, Bool.not_eq_false, Option.isNone_none, Option.isNone_some, Option.isSome_none, Option.isSome_some, ne_eq, Decidable.not_not] at hb7_17
                            refine WN.skip _ rfl rfl rfl rfl ?_
                            refine WN.skip _ rfl rfl rfl rfl ?_
                            refine WN.skip _ rfl rfl rfl rfl ?_
                            refine WN.calm _ rfl rfl rfl rfl rfl (fun _ => r_pickF rfl (ev_t rfl) ev_c) ?_
                            refine WN.calm _ rfl rfl rfl rfl rfl (fun _ => r_move rfl (ev_t rfl)) ?_
                            refine WN.skip _ rfl rfl rfl rfl ?_
                            refine WN.skip _ rfl rfl rfl rfl ?_
                            refine WN.fork _ _ rfl rfl ?_ ?_
                            · refine SO.val rfl rfl rfl rfl (r_toStr rfl (ev_t rfl) (ho3.rd (by omega)) elem_37 int_5 str_9) ?_
                              refine ⟨trivial, ?_⟩
                              refine WN.step _ rfl (SO.skip rfl rfl rfl ?_)
                              refine ⟨trivial, ?_⟩
                              refine WN.skip _ rfl rfl rfl rfl ?_
                              refine WN.calm _ rfl rfl rfl rfl rfl (fun _ => r_pickF rfl (ev_t rfl) ev_c) ?_
                              refine WN.calm _ rfl rfl rfl rfl rfl (fun _ => r_assign rfl (ev_t rfl)) ?_
                              refine WN.done ?_
                              refine WX.keep [(4, _)] ⟨rfl, trivial⟩ ?_
                              refine WX.next ?_
                              refine WC.ret ?_
                              refine WX.retE1 rfl rfl ?_
                              exact ⟨by simp, hU⟩
                            · refine SO.val rfl rfl rfl rfl (r_toStr rfl (ev_t rfl) ho4 elem_37 int_5 str_9) ?_
                              refine ⟨trivial, ?_⟩
                              refine WN.step _ rfl (SO.skip rfl rfl rfl ?_)
                              refine ⟨trivial, ?_⟩
                              refine WN.skip _ rfl rfl rfl rfl ?_
                              refine WN.calm _ rfl rfl rfl rfl rfl (fun _ => r_pickF rfl (ev_t rfl) ev_c) ?_
                              refine WN.calm _ rfl rfl rfl rfl rfl (fun _ => r_assign rfl (ev_t rfl)) ?_
                              refine WN.done ?_
                              refine WX.keep [(4, _)] ⟨rfl, trivial⟩ ?_
                              refine WX.next ?_
                              refine WC.ret ?_
                              refine WX.retE1 rfl rfl ?_
                              exact ⟨by simp, hU⟩
                      · refine SO.val rfl rfl rfl rfl (r_toStr rfl (ev_t rfl) hr1 elem_37 int_5 str_9) ?_
                        refine ⟨trivial, ?_⟩
                        refine WN.step _ rfl (SO.val rfl rfl rfl rfl (r_toStr rfl (ev_t rfl) (ho2.rd (by omega)) elem_37 int_5 str_9) ?_)
                        refine ⟨trivial, ?_⟩
                        refine WN.calm _ rfl rfl rfl rfl rfl (fun _ => r_eqlStr rfl (ev_t rfl) (ev_t rfl)) ?_
                        refine WN.calm _ rfl rfl rfl rfl rfl (fun _ => r_pickT rfl (ev_t rfl) (ev_t rfl)) ?_
                        refine WN.calm _ rfl rfl rfl rfl rfl (fun _ => r_move rfl (ev_t rfl)) ?_
                        refine WN.cases 55 rfl (fun hb7_17 => ?_) (fun hb7_17 => ?_)
                        · try (exfalso; first | (simp at hb7_17; done) | (simp only [decide_eq_true_eq, decide_eq_false_iff_not, Bool.not_eq_true', Bool.not_eq_false', Bool.not_eq_true, Bool.not_eq_false] at hb7_17; omega) | omega)
                          all_goals
                            try simp only [decide_eq_true_eq, decide_eq_false_iff_not, Bool.not_eq_true', Bool.not_eq_false', Bool.not_eq_true, Bool.not_eq_false, Option.isNone_none, Option.isNone_some, Option.isSome_none, Option.isSome_some, ne_eq, Decidable.not_not] at hb7_17
                            refine WN.calm _ rfl rfl rfl rfl rfl (fun _ => r_move rfl (ev_t rfl)) ?_
                            refine WN.calm _ rfl rfl rfl rfl rfl (fun _ => r_move rfl (ev_t rfl)) ?_
                            refine WN.calm _ rfl rfl rfl rfl rfl (fun _ => r_eql rfl (ev_t rfl) (ev_t rfl)) ?_
                            refine WN.calm _ rfl rfl rfl rfl rfl (fun _ => r_pickT rfl (ev_t rfl) (ev_t rfl)) ?_
                            refine WN.calm _ rfl rfl rfl rfl rfl (fun _ => r_move rfl (ev_t rfl)) ?_
                            refine WN.cases 60 rfl (fun hb7_22 => ?_) (fun hb7_22 => ?_)
                            · try (exfalso; first | (simp at hb7_22; done) | (simp only [decide_eq_true_eq, decide_eq_false_iff_not, Bool.not_eq_true', Bool.not_eq_false', Bool.not_eq_true, Bool.not_eq_false] at hb7_22; omega) | omega)
                              all_goals
                                try simp only [decide_eq_true_eq, decide_eq_false_iff_not, Bool.not_eq_true', Bool.not_eq_false', Bool.not_eq_true, Bool.not_eq_false, Option.isNone_none, Option.isNone_some, Option.isSome_none, Option.isSome_some, ne_eq, Decidable.not_not] at hb7_22
                                refine WN.calm _ rfl rfl rfl rfl rfl (fun _ => r_move rfl (ev_t rfl)) ?_
                                refine WN.calm _ rfl rfl rfl rfl rfl (fun _ => r_move rfl (ev_t rfl)) ?_
                                refine WN.fork _ _ rfl rfl ?_ ?_
                                · refine SO.val rfl rfl rfl rfl (r_toStr rfl (ev_t rfl) (ho3.rd (by omega)) elem_37 int_5 str_9) ?_
                                  refine ⟨trivial, ?_⟩
                                  refine WN.step _ rfl (SO.val rfl rfl rfl rfl (r_toStr rfl (ev_t rfl) ho4 elem_37 int_5 str_9) ?_)
                                  refine ⟨trivial, ?_⟩
                                  refine WN.calm _ rfl rfl rfl rfl rfl (fun _ => r_eqlStr rfl (ev_t rfl) (ev_t rfl)) ?_
                                  refine WN.calm _ rfl rfl rfl rfl rfl (fun _ => r_pickT rfl (ev_t rfl) (ev_t rfl)) ?_
                                  refine WN.calm _ rfl rfl rfl rfl rfl (fun _ => r_assign rfl (ev_t rfl)) ?_
                                  refine WN.done ?_
                                  refine WX.keep [(4, _)] ⟨rfl, trivial⟩ ?_
                                  refine WX.next ?_
                                  refine WC.ret ?_
                                  refine WX.retE1 rfl rfl ?_
                                  exact ⟨by simp, hU⟩
                                · refine SO.val rfl rfl rfl rfl (r_toStr rfl (ev_t rfl) ho4 elem_37 int_5 str_9) ?_
                                  refine ⟨trivial, ?_⟩
                                  refine WN.step _ rfl (SO.val rfl rfl rfl rfl (r_toStr rfl (ev_t rfl) (ho3.rd (by omega)) elem_37 int_5 str_9) ?_)
                                  refine ⟨trivial, ?_⟩
                                  refine WN.calm _ rfl rfl rfl rfl rfl (fun _ => r_eqlStr rfl (ev_t rfl) (ev_t rfl)) ?_
                                  refine WN.calm _ rfl rfl rfl rfl rfl (fun _ => r_pickT rfl (ev_t rfl) (ev_t rfl)) ?_
                                  refine WN.calm _ rfl rfl rfl rfl rfl (fun _ => r_assign rfl (ev_t rfl)) ?_
                                  refine WN.done ?_
                                  refine WX.keep [(4, _)] ⟨rfl, trivial⟩ ?_
                                  refine WX.next ?_
                                  refine WC.ret ?_
                                  refine WX.retE1 rfl rfl ?_
                                  exact ⟨by simp, hU⟩
                            · try (exfalso; first | (simp at hb7_22; done) | (simp only [decide_eq_true_eq, decide_eq_false_iff_not, Bool.not_eq_true', Bool.not_eq_false', Bool.not_eq_true, Bool.not_eq_false] at hb7_22; omega) | omega)
                              all_goals
                                try simp only [decide_eq_true_eq, decide_eq_false_iff_not, Bool.not_eq_true', Bool.not_eq_false', Bool.not_eq_true, Bool.not_eq_false, Option.isNone_none, Option.isNone_some, Option.isSome_none, Option.isSome_some, ne_eq, Decidable.not_not] at hb7_22
                                refine WN.skip _ rfl rfl rfl rfl ?_
                                refine WN.skip _ rfl rfl rfl rfl ?_
                                refine WN.fork _ _ rfl rfl ?_ ?_
                                · refine SO.val rfl rfl rfl rfl (r_toStr rfl (ev_t rfl) (ho3.rd (by omega)) elem_37 int_5 str_9) ?_
                                  refine ⟨trivial, ?_⟩
                                  refine WN.step _ rfl (SO.skip rfl rfl rfl ?_)
                                  refine ⟨trivial, ?_⟩
                                  refine WN.skip _ rfl rfl rfl rfl ?_
                                  refine WN.calm _ rfl rfl rfl rfl rfl (fun _ => r_pickF rfl (ev_t rfl) ev_c) ?_
                                  refine WN.calm _ rfl rfl rfl rfl rfl (fun _ => r_assign rfl (ev_t rfl)) ?_
                                  refine WN.done ?_
                                  refine WX.keep [(4, _)] ⟨rfl, trivial⟩ ?_
                                  refine WX.next ?_
                                  refine WC.ret ?_
                                  refine WX.retE1 rfl rfl ?_
                                  exact ⟨by simp, hU⟩
                                · refine SO.val rfl rfl rfl rfl (r_toStr rfl (ev_t rfl) ho4 elem_37 int_5 str_9) ?_
                                  refine ⟨trivial, ?_⟩
                                  refine WN.step _ rfl (SO.skip rfl rfl rfl ?_)
                                  refine ⟨trivial, ?_⟩
                                  refine WN.skip _ rfl rfl rfl rfl ?_
                                  refine WN.calm _ rfl rfl rfl rfl rfl (fun _ => r_pickF rfl (ev_t rfl) ev_c) ?_
                                  refine WN.calm _ rfl rfl rfl rfl rfl (fun _ => r_assign rfl (ev_t rfl)) ?_
                                  refine WN.done ?_
                                  refine WX.keep [(4, _)] ⟨rfl, trivial⟩ ?_
                                  refine WX.next ?_
                                  refine WC.ret ?_
                                  refine WX.retE1 rfl rfl ?_
                                  exact ⟨by simp, hU⟩
                        · try (exfalso; first | (simp at hb7_17; done) | (simp only [decide_eq_true_eq, decide_eq_false_iff_not, Bool.not_eq_true', Bool.not_eq_false', Bool.not_eq_true, Bool.not_eq_false] at hb7_17; omega) | omega)
                          all_goals
                            try simp only [decide_eq_true_eq, decide_eq_false_iff_not, Bool.not_eq_true', Bool.not_eq_false', Bool.not_eq_true, Bool.not_eq_false, Option.isNone_none, Option.isNone_some, Option.isSome_none, Option.isSome_some, ne_eq, Decidable.not_not] at hb7_17
                            refine WN.skip _ rfl rfl rfl rfl ?_
                            refine WN.skip _ rfl rfl rfl rfl ?_
                            refine WN.skip _ rfl rfl rfl rfl ?_
                            refine WN.calm _ rfl rfl rfl rfl rfl (fun _ => r_pickF rfl (ev_t rfl) ev_c) ?_
                            refine WN.calm _ rfl rfl rfl rfl rfl (fun _ => r_move rfl (ev_t rfl)) ?_
                            refine WN.skip _ rfl rfl rfl rfl ?_
                            refine WN.skip _ rfl rfl rfl rfl ?_
                            refine WN.fork _ _ rfl rfl ?_ ?_
                            · refine SO.val rfl rfl rfl rfl (r_toStr rfl (ev_t rfl) (ho3.rd (by omega)) elem_37 int_5 str_9) ?_
                              refine ⟨trivial, ?_⟩
                              refine WN.step _ rfl (SO.skip rfl rfl rfl ?_)
                              refine ⟨trivial, ?_⟩
                              refine WN.skip _ rfl rfl rfl rfl ?_
                              refine WN.calm _ rfl rfl rfl rfl rfl (fun _ => r_pickF rfl (ev_t rfl) ev_c) ?_
                              refine WN.calm _ rfl rfl rfl rfl rfl (fun _ => r_assign rfl (ev_t rfl)) ?_
                              refine WN.done ?_
                              refine WX.keep [(4, _)] ⟨rfl, trivial⟩ ?_
                              refine WX.next ?_
                              refine WC.ret ?_
                              refine WX.retE1 rfl rfl ?_
                              exact ⟨by simp, hU⟩
                            · refine SO.val rfl rfl rfl rfl (r_toStr rfl (ev_t rfl) ho4 elem_37 int_5 str_9) ?_
                              refine ⟨trivial, ?_⟩
                              refine WN.step _ rfl (SO.skip rfl rfl rfl ?_)
                              refine ⟨trivial, ?_⟩
                              refine WN.skip _ rfl rfl rfl rfl ?_
                              refine WN.calm _ rfl rfl rfl rfl rfl (fun _ => r_pickF rfl (ev_t rfl) ev_c) ?_
                              refine WN.calm _ rfl rfl rfl rfl rfl (fun _ => r_assign rfl (ev_t rfl)) ?_
                              refine WN.done ?_
                              refine WX.keep [(4, _)] ⟨rfl, trivial⟩ ?_
                              refine WX.next ?_
                              refine WC.ret ?_
                              refine WX.retE1 rfl rfl ?_
                              exact ⟨by simp, hU⟩
                  · try (exfalso; first | (simp at hb7_10; done) | (simp only [decide_eq_true_eq, decide_eq_false_iff_not, Bool.not_eq_true', Bool.not_eq_false', Bool.not_eq_true, Bool.not_eq_false] at hb7_10; omega) | omega)
                    all_goals
                      try simp only [decide_eq_true_eq, decide_eq_false_iff_not, Bool.not_eq_true', Bool.not_eq_false', Bool.not_eq_true, Bool.not_eq_false, Option.isNone_none, Option.isNone_some, Option.isSome_none, Option.isSome_some, ne_eq, Decidable.not_not] at hb7_10
                      refine WN.skip _ rfl rfl rfl rfl ?_
                      refine WN.skip _ rfl rfl rfl rfl ?_
                      refine WN.fork _ _ rfl rfl ?_ ?_
                      · refine SO.val rfl rfl rfl rfl (r_toStr rfl (ev_t rfl) (ho2.rd (by omega)) elem_37 int_5 str_9) ?_
                        refine ⟨trivial, ?_⟩
                        refine WN.step _ rfl (SO.skip rfl rfl rfl ?_)
                        refine ⟨trivial, ?_⟩
                        refine WN.skip _ rfl rfl rfl rfl ?_
                        refine WN.calm _ rfl rfl rfl rfl rfl (fun _ => r_pickF rfl (ev_t rfl) ev_c) ?_
                        refine WN.calm _ rfl rfl rfl rfl rfl (fun _ => r_move rfl (ev_t rfl)) ?_
                        refine WN.skip _ rfl rfl rfl rfl ?_
                        refine WN.skip _ rfl rfl rfl rfl ?_
                        refine WN.skip _ rfl rfl rfl rfl ?_
                        refine WN.calm _ rfl rfl rfl rfl rfl (fun _ => r_pickF rfl (ev_t rfl) ev_c) ?_
                        refine WN.calm _ rfl rfl rfl rfl rfl (fun _ => r_move rfl (ev_t rfl)) ?_
                        refine WN.skip _ rfl rfl rfl rfl ?_
                        refine WN.skip _ rfl rfl rfl rfl ?_
                        refine WN.fork _ _ rfl rfl ?_ ?_
                        · refine SO.val rfl rfl rfl rfl (r_toStr rfl (ev_t rfl) (ho3.rd (by omega)) elem_37 int_5 str_9) ?_
                          refine ⟨trivial, ?_⟩
                          refine WN.step _ rfl (SO.skip rfl rfl rfl ?_)
                          refine ⟨trivial, ?_⟩
                          refine WN.skip _ rfl rfl rfl rfl ?_
                          refine WN.calm _ rfl rfl rfl rfl rfl (fun _ => r_pickF rfl (ev_t rfl) ev_c) ?_
                          refine WN.calm _ rfl rfl rfl rfl rfl (fun _ => r_assign rfl (ev_t rfl)) ?_
                          refine WN.done ?_
                          refine WX.keep [(4, _)] ⟨rfl, trivial⟩ ?_
                          refine WX.next ?_
                          refine WC.ret ?_
                          refine WX.retE1 rfl rfl ?_
                          exact ⟨by simp, hU⟩
                        · refine SO.val rfl rfl rfl rfl (r_toStr rfl (ev_t rfl) ho4 elem_37 int_5 str_9) ?_
                          refine ⟨trivial, ?_⟩
                          refine WN.step _ rfl (SO.skip rfl rfl rfl ?_)
                          refine ⟨trivial, ?_⟩
                          refine WN.skip _ rfl rfl rfl rfl ?_
                          refine WN.calm _ rfl rfl rfl rfl rfl (fun _ => r_pickF rfl (ev_t rfl) ev_c) ?_
                          refine WN.calm _ rfl rfl rfl rfl rfl (fun _ => r_assign rfl (ev_t rfl)) ?_
                          refine WN.done ?_
                          refine WX.keep [(4, _)] ⟨rfl, trivial⟩ ?_
                          refine WX.next ?_
                          refine WC.ret ?_
                          refine WX.retE1 rfl rfl ?_
                          exact ⟨by simp, hU⟩
                      · refine SO.val rfl rfl rfl rfl (r_toStr rfl (ev_t rfl) hr1 elem_37 int_5 str_9) ?_
                        refine ⟨trivial, ?_⟩
                        refine WN.step _ rfl (SO.skip rfl rfl rfl ?_)
                        refine ⟨trivial, ?_⟩
                        refine WN.skip _ rfl rfl rfl rfl ?_
                        refine WN.calm _ rfl rfl rfl rfl rfl (fun _ => r_pickF rfl (ev_t rfl) ev_c) ?_
                        refine WN.calm _ rfl rfl rfl rfl rfl (fun _ => r_move rfl (ev_t rfl)) ?_
                        refine WN.skip _ rfl rfl rfl rfl ?_
                        refine WN.skip _ rfl rfl rfl rfl ?_
                        refine WN.skip _ rfl rfl rfl rfl ?_
                        refine WN.calm _ rfl rfl rfl rfl rfl (fun _ => r_pickF rfl (ev_t rfl) ev_c) ?_
                        refine WN.calm _ rfl rfl rfl rfl rfl (fun _ => r_move rfl (ev_t rfl)) ?_
                        refine WN.skip _ rfl rfl rfl rfl ?_
                        refine WN.skip _ rfl rfl rfl rfl ?_
                        refine WN.fork _ _ rfl rfl ?_ ?_
                        · refine SO.val rfl rfl rfl rfl (r_toStr rfl (ev_t rfl) (ho3.rd (by omega)) elem_37 int_5 str_9) ?_
                          refine ⟨trivial, ?_⟩
                          refine WN.step _ rfl (SO.skip rfl rfl rfl ?_)
                          refine ⟨trivial, ?_⟩
                          refine WN.skip _ rfl rfl rfl rfl ?_
                          refine WN.calm _ rfl rfl rfl rfl rfl (fun _ => r_pickF rfl (ev_t rfl) ev_c) ?_
                          refine WN.calm _ rfl rfl rfl rfl rfl (fun _ => r_assign rfl (ev_t rfl)) ?_
                          refine WN.done ?_
                          refine WX.keep [(4, _)] ⟨rfl, trivial⟩ ?_
                          refine WX.next ?_
                          refine WC.ret ?_
                          refine WX.retE1 rfl rfl ?_
                          exact ⟨by simp, hU⟩
                        · refine SO.val rfl rfl rfl rfl (r_toStr rfl (ev_t rfl) ho4 elem_37 int_5 str_9) ?_
                          refine ⟨trivial, ?_⟩
                          refine WN.step _ rfl (SO.skip rfl rfl rfl ?_)
                          refine ⟨trivial, ?_⟩
                          refine WN.skip _ rfl rfl rfl rfl ?_
                          refine WN.calm _ rfl rfl rfl rfl rfl (fun _ => r_pickF rfl (ev_t rfl) ev_c) ?_
                          refine WN.calm _ rfl rfl rfl rfl rfl (fun _ => r_assign rfl (ev_t rfl)) ?_
                          refine WN.done ?_
                          refine WX.keep [(4, _)] ⟨rfl, trivial⟩ ?_
                          refine WX.next ?_
                          refine WC.ret ?_
                          refine WX.retE1 rfl rfl ?_
                          exact ⟨by simp, hU⟩
              · try (exfalso; first | (simp at hb7_6; done) | (simp only [decide_eq_true_eq, decide_eq_false_iff_not, Bool.not_eq_true', Bool.not_eq_false', Bool.not_eq_true, Bool.not_eq_false] at hb7_6; omega) | omega)
                all_goals
                  try simp only [decide_eq_true_eq, decide_eq_false_iff_not, Bool.not_eq_true', Bool.not_eq_false', Bool.not_eq_true, Bool.not_eq_false, Option.isNone_none, Option.isNone_some, Option.isSome_none, Option.isSome_some, ne_eq, Decidable.not_not] at hb7_6
                  refine WN.skip _ rfl rfl rfl rfl ?_
                  refine WN.skip _ rfl rfl rfl rfl ?_
                  refine WN.calm _ rfl rfl rfl rfl rfl (fun _ => r_pickF rfl (ev_t rfl) ev_c) ?_
                  refine WN.calm _ rfl rfl rfl rfl rfl (fun _ => r_move rfl (ev_t rfl)) ?_
                  refine WN.skip _ rfl rfl rfl rfl ?_
                  refine WN.skip _ rfl rfl rfl rfl ?_
                  refine WN.fork _ _ rfl rfl ?_ ?_
                  · refine SO.val rfl rfl rfl rfl (r_toStr rfl (ev_t rfl) (ho2.rd (by omega)) elem_37 int_5 str_9) ?_
                    refine ⟨trivial, ?_⟩
                    refine WN.step _ rfl (SO.skip rfl rfl rfl ?_)
                    refine ⟨trivial, ?_⟩
                    refine WN.skip _ rfl rfl rfl rfl ?_
                    refine WN.calm _ rfl rfl rfl rfl rfl (fun _ => r_pickF rfl (ev_t rfl) ev_c) ?_
                    refine WN.calm _ rfl rfl rfl rfl rfl (fun _ => r_move rfl (ev_t rfl)) ?_
                    refine WN.skip _ rfl rfl rfl rfl ?_
                    refine WN.skip _ rfl rfl rfl rfl ?_
                    refine WN.skip _ rfl rfl rfl rfl ?_
                    refine WN.calm _ rfl rfl rfl rfl rfl (fun _ => r_pickF rfl (ev_t rfl) ev_c) ?_
                    refine WN.calm _ rfl rfl rfl rfl rfl (fun _ => r_move rfl (ev_t rfl)) ?_
                    refine WN.skip _ rfl rfl rfl rfl ?_
                    refine WN.skip _ rfl rfl rfl rfl ?_
                    refine WN.fork _ _ rfl rfl ?_ ?_
                    · refine SO.val rfl rfl rfl rfl (r_toStr rfl (ev_t rfl) (ho3.rd (by omega)) elem_37 int_5 str_9) ?_
                      refine ⟨trivial, ?_⟩
                      refine WN.step _ rfl (SO.skip rfl rfl rfl ?_)
                      refine ⟨trivial, ?_⟩
                      refine WN.skip _ rfl rfl rfl rfl ?_
                      refine WN.calm _ rfl rfl rfl rfl rfl (fun _ => r_pickF rfl (ev_t rfl) ev_c) ?_
                      refine WN.calm _ rfl rfl rfl rfl rfl (fun _ => r_assign rfl (ev_t rfl)) ?_
                      refine WN.done ?_
                      refine WX.keep [(4, _)] ⟨rfl, trivial⟩ ?_
                      refine WX.next ?_
                      refine WC.ret ?_
                      refine WX.retE1 rfl rfl ?_
                      exact ⟨by simp, hU⟩
                    · refine SO.val rfl rfl rfl rfl (r_toStr rfl (ev_t rfl) ho4 elem_37 int_5 str_9) ?_
                      refine ⟨trivial, ?_⟩
                      refine WN.step _ rfl (SO.skip rfl rfl rfl ?_)
                      refine ⟨trivial, ?_⟩
                      refine WN.skip _ rfl rfl rfl rfl ?_
                      refine WN.calm _ rfl rfl rfl rfl rfl (fun _ => r_pickF rfl (ev_t rfl) ev_c) ?_
                      refine WN.calm _ rfl rfl rfl rfl rfl (fun _ => r_assign rfl (ev_t rfl)) ?_
                      refine WN.done ?_
                      refine WX.keep [(4, _)] ⟨rfl, trivial⟩ ?_
                      refine WX.next ?_
                      refine WC.ret ?_
                      refine WX.retE1 rfl rfl ?_
                      exact ⟨by simp, hU⟩
                  · refine SO.val rfl rfl rfl rfl (r_toStr rfl (ev_t rfl) hr1 elem_37 int_5 str_9) ?_
                    refine ⟨trivial, ?_⟩
                    refine WN.step _ rfl (SO.skip rfl rfl rfl ?_)
                    refine ⟨trivial, ?_⟩
                    refine WN.skip _ rfl rfl rfl rfl ?_
                    refine WN.calm _ rfl rfl rfl rfl rfl (fun _ => r_pickF rfl (ev_t rfl) ev_c) ?_
                    refine WN.calm _ rfl rfl rfl rfl rfl (fun _ => r_move rfl (ev_t rfl)) ?_
                    refine WN.skip _ rfl rfl rfl rfl ?_
                    refine WN.skip _ rfl rfl rfl rfl ?_
                    refine WN.skip _ rfl rfl rfl rfl ?_
                    refine WN.calm _ rfl rfl rfl rfl rfl (fun _ => r_pickF rfl (ev_t rfl) ev_c) ?_
                    refine WN.calm _ rfl rfl rfl rfl rfl (fun _ => r_move rfl (ev_t rfl)) ?_
                    refine WN.skip _ rfl rfl rfl rfl ?_
                    refine WN.skip _ rfl rfl rfl rfl ?_
                    refine WN.fork _ _ rfl rfl ?_ ?_
                    · refine SO.val rfl rfl rfl rfl (r_toStr rfl (ev_t rfl) (ho3.rd (by omega)) elem_37 int_5 str_9) ?_
                      refine ⟨trivial, ?_⟩
                      refine WN.step _ rfl (SO.skip rfl rfl rfl ?_)
                      refine ⟨trivial, ?_⟩
                      refine WN.skip _ rfl rfl rfl rfl ?_
                      refine WN.calm _ rfl rfl rfl rfl rfl (fun _ => r_pickF rfl (ev_t rfl) ev_c) ?_
                      refine WN.calm _ rfl rfl rfl rfl rfl (fun _ => r_assign rfl (ev_t rfl)) ?_
                      refine WN.done ?_
                      refine WX.keep [(4, _)] ⟨rfl, trivial⟩ ?_
                      refine WX.next ?_
                      refine WC.ret ?_
                      refine WX.retE1 rfl rfl ?_
                      exact ⟨by simp, hU⟩
                    · refine SO.val rfl rfl rfl rfl (r_toStr rfl (ev_t rfl) ho4 elem_37 int_5 str_9) ?_
                      refine ⟨trivial, ?_⟩
                      refine WN.step _ rfl (SO.skip rfl rfl rfl ?_)
                      refine ⟨trivial, ?_⟩
                      refine WN.skip _ rfl rfl rfl rfl ?_
                      refine WN.calm _ rfl rfl rfl rfl rfl (fun _ => r_pickF rfl (ev_t rfl) ev_c) ?_
                      refine WN.calm _ rfl rfl rfl rfl rfl (fun _ => r_assign rfl (ev_t rfl)) ?_
                      refine WN.done ?_
                      refine WX.keep [(4, _)] ⟨rfl, trivial⟩ ?_
                      refine WX.next ?_
                      refine WC.ret ?_
                      refine WX.retE1 rfl rfl ?_
                      exact ⟨by simp, hU⟩
end Go.Proofs.Ytjiafgnibhgfbaa
